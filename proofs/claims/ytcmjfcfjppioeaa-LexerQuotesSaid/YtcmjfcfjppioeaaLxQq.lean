/- lexer: LexerQuotes answers true. -/
import Derived.Test.YtcmjfcfjppioeaaLxQ1
import Derived.Test.YtcmjfcfjppioeaaPbQ
namespace Go.Proofs.Ytcmjfcfjppioeaa
open Go Go.RowKit Go.Proofs.Ytcmjfcfjppioeaa.Pb Go.Proofs.YtcmjfcfjppioeaaW.PrintWords Go.Proofs.YtcmjfcfjppioeaaW.PrintLast
set_option linter.unusedSimpArgs false

theorem show_one (k : Nat) (kd : Int) (s : ByteArray) (hs : s.size ≤ 900) (hk : 2000 < k) : lexer_Show.f k [⟨kd, s, 0⟩] = some (ofL (showT kd (tl s))) := by
  rw [show_f [⟨kd, s, 0⟩] 900 (by omega) (by show 1 ≤ 3000; omega) (fun x hx => by rw [List.mem_singleton] at hx; subst hx; exact hs) k (by show 2 * 1 + 900 + 5 < k; omega)]
  congr 2
  show shT _ ++ [] = _
  rw [List.append_nil]
  rfl
theorem scan_shown (kd : Int) (s : ByteArray) (hs : s.size ≤ 900) (hkd : kd = 2 ∨ kd = 3) : lexer_Scan.f (ofL (showT kd (tl s))) = some ([⟨kd, s, 0⟩], 0, 0) := by
  have h2 := dbl_len 34 (tl s)
  have h3 := dbl_len 39 (tl s)
  rw [tl_len] at h2 h3
  have hsz : (ofL (showT kd (tl s))).size ≤ 2000 := by
    rw [ofL_size]
    rcases hkd with rfl | rfl
    · show (dbl 34 (tl s)).length ≤ 2000; omega
    · show (dbl 39 (tl s)).length ≤ 2000; omega
  have hsc : scan (tl (ofL (showT kd (tl s)))) = .ok [⟨kd, tl s, 0⟩] := by
    rw [tl_ofL]
    rcases hkd with rfl | rfl
    · have := one_quo [] (by simp) (tl s)
      rw [List.append_nil] at this
      exact scan_one _ _ _ this
    · have := one_str [] (by simp) (tl s)
      rw [List.append_nil] at this
      exact scan_one _ _ _ this
  rw [scan_f _ (by omega), scanF_ok _ hsz _ hsc]
  congr 2
theorem quotes_l (s : ByteArray) (hs : s.size ≤ 300) : ∀ (m k i : Nat), i + m = s.size → m + 200 < k → (∀ c ∈ (tl s).take i, c ≠ 36) → pontoonlaw04_LexerQuotes.l0 k s [⟨3, s, 0⟩] (i : Int) = some true := by
  intro m
  induction m with
  | zero =>
    intro k i hi hk hc
    obtain ⟨k, rfl⟩ : ∃ j, k = j + 1 := ⟨k - 1, by omega⟩
    have hz : ((⟨#[36, 113, 36]⟩ : ByteArray) ++ s).size = 3 + s.size := by rw [ByteArray.size_append]; rfl
    have htl : tl ((⟨#[36, 113, 36]⟩ : ByteArray) ++ s ++ (⟨#[36, 113, 36]⟩ : ByteArray)) = dolT ++ tl s ++ dolT := by
      simp [tl, dolT]
    have hz2 : ((⟨#[36, 113, 36]⟩ : ByteArray) ++ s ++ (⟨#[36, 113, 36]⟩ : ByteArray)).size ≤ 2000 := by
      rw [ByteArray.size_append, hz]
      show 3 + s.size + 3 ≤ 2000
      omega
    rw [List.take_of_length_le (by rw [tl_len]; omega)] at hc
    have hsc : scan (tl ((⟨#[36, 113, 36]⟩ : ByteArray) ++ s ++ (⟨#[36, 113, 36]⟩ : ByteArray))) = .ok [⟨3, tl s, 0⟩] := by
      rw [htl]
      exact scan_one _ _ _ (one_dol (tl s) hc)
    simp only [pontoonlaw04_LexerQuotes.l0]
    rw [if_neg (by omega), if_pos (by omega), hz, if_pos (by omega), scan_f _ (by omega), scanF_ok _ hz2 _ hsc, Option.bind_some, if_pos rfl]
    have e : [(⟨3, tl s, 0⟩ : Tk)].map tkS = [⟨3, s, 0⟩] := by
      show [(⟨3, ofL (tl s), ((0 : Nat) : Int)⟩ : S30)] = _
      rw [ofL_tl]
      rfl
    rw [e, same_self _ true k (by show 1 ≤ _; omega) (by show 1 < k; omega), Option.bind_some, if_pos rfl, known_up k (by omega)]
    rfl
  | succ m ih =>
    intro k i hi hk hc
    obtain ⟨k, rfl⟩ : ∃ j, k = j + 1 := ⟨k - 1, by omega⟩
    have hlt : i < s.size := by omega
    simp only [pontoonlaw04_LexerQuotes.l0]
    rw [if_pos (by omega), if_pos (by omega), bt_i s i hlt]
    by_cases h36 : s[i] = 36
    · rw [if_pos ((bt36 _).1 h36), known_up k (by omega)]
      rfl
    · rw [if_neg (fun e => h36 ((bt36 _).2 e)), wrp (by omega) (by omega), show ((i : Int) + 1) = ((i + 1 : Nat) : Int) by omega]
      refine ih k (i + 1) (by omega) (by omega) (fun c hcm => ?_)
      rw [List.take_succ_eq_append_getElem (by rw [tl_len]; exact hlt)] at hcm
      rcases List.mem_append.1 hcm with h | h
      · exact hc c h
      · rw [List.mem_singleton] at h
        rw [h]
        exact h36
theorem quotes_f (s : ByteArray) : pontoonlaw04_LexerQuotes.f 3000 s = some true := by
  unfold pontoonlaw04_LexerQuotes.f
  split
  · rw [known_up 3000 (by omega)]
    rfl
  · rename_i h
    have hs : s.size ≤ 300 := by omega
    rw [show_one 3000 3 s (by omega) (by omega), Option.bind_some, scan_shown 3 s (by omega) (.inr rfl), Option.bind_some, show_one 3000 2 s (by omega) (by omega), Option.bind_some, scan_shown 2 s (by omega) (.inl rfl), Option.bind_some, if_pos rfl, if_pos rfl, same_self _ true 3000 (by show 1 ≤ _; omega) (by show 1 < _; omega), Option.bind_some, if_pos rfl, same_self _ true 3000 (by show 1 ≤ _; omega) (by show 1 < _; omega), Option.bind_some]
    rw [pontoonlaw04_LexerQuotes.j0]
    show (if (!true) = true then _ else _) = _
    rw [if_neg (by decide)]
    exact quotes_l s hs s.size 2999 0 (by omega) (by omega) (fun c hc => by simp at hc)
theorem quotes_walk (s : ByteArray) (_hs : s.size ≤ 140737488351232) (w : World) : Calls Try.prog 6 #[.string s] w fun e w' => e = .returned (.bool true) ∧ Below w.heap.size w w' :=
  pontoonlaw04_LexerQuotes.calls 3000 s true w (quotes_f s)
end Go.Proofs.Ytcmjfcfjppioeaa
