/- lexer: LexerAhead answers true. -/
import Derived.Test.YtcmjfcfjppioeaaLxQ1
import Derived.Test.YtcmjfcfjppioeaaPbx11
namespace Go.Proofs.Ytcmjfcfjppioeaa
open Go Go.RowKit Go.Proofs.Ytcmjfcfjppioeaa.Pb Go.Proofs.YtcmjfcfjppioeaaW.PrintWords Go.Proofs.YtcmjfcfjppioeaaW.PrintLast
set_option linter.unusedSimpArgs false

/-! what stands ahead -/
def dn (x : S30) : S30 := ⟨x.f0, x.f1, x.f2 - 10⟩
theorem ahead_l (a l : List S30) (hl : l.length ≤ 2000) (ha : a = l.map dn) (hb : ∀ x ∈ l, 0 ≤ x.f2 ∧ x.f2 ≤ 100000) : ∀ (m k i : Nat) (b : List S30), i + m = l.length → m + 2200 < k → b = (l.take i).map dn ++ l.drop i → pontoonlaw04_LexerAhead.l0 k a b (i : Int) = some true := by
  intro m
  induction m with
  | zero =>
    intro k i b hi hk hbb
    obtain ⟨k, rfl⟩ : ∃ j, k = j + 1 := ⟨k - 1, by omega⟩
    rw [List.take_of_length_le (by omega), List.drop_of_length_le (by omega), List.append_nil, ← ha] at hbb
    have hal : a.length = l.length := by rw [ha, List.length_map]
    simp only [pontoonlaw04_LexerAhead.l0]
    rw [hbb, if_neg (by omega), same_self a true k (by omega) (by omega), Option.bind_some, if_pos rfl, known_up k (by omega)]
    rfl
  | succ m ih =>
    intro k i b hi hk hbb
    obtain ⟨k, rfl⟩ : ∃ j, k = j + 1 := ⟨k - 1, by omega⟩
    have hlt : i < l.length := by omega
    have hlen : ((l.take i).map dn).length = i := by simp; omega
    have hbl : b.length = l.length := by rw [hbb]; simp; omega
    have hbi : b = (l.take i).map dn ++ l[i] :: l.drop (i + 1) := by rw [hbb, List.drop_eq_getElem_cons hlt]
    have hrd : rd_T30 b i = l[i] := by
      rw [rdT b i (by omega)]
      have : b[i]? = some l[i] := by rw [hbi, List.getElem?_append_right (by omega), hlen, Nat.sub_self]; rfl
      rw [List.getElem?_eq_getElem (by omega)] at this
      exact Option.some.inj this
    have hx := hb l[i] (List.getElem_mem hlt)
    simp only [pontoonlaw04_LexerAhead.l0]
    rw [if_pos (by omega), if_pos (by omega), hrd, Int.toNat_natCast, wrp (by omega) (by omega), wrp (by omega) (by omega), show ((i : Int) + 1) = ((i + 1 : Nat) : Int) by omega]
    refine ih k (i + 1) _ (by omega) (by omega) ?_
    rw [hbi, List.set_append_right _ _ (by omega), hlen, Nat.sub_self, List.set_cons_zero, List.take_succ_eq_append_getElem hlt, List.map_append, List.append_assoc]
    rfl
theorem ahead_f (s : ByteArray) : pontoonlaw04_LexerAhead.f 6000 s = some true := by
  unfold pontoonlaw04_LexerAhead.f
  split
  · rw [known_up 6000 (by omega)]
    rfl
  · rename_i h
    have hs : s.size ≤ 1900 := by omega
    have htl : tl ((⟨#[32, 47, 42, 47, 42, 42, 47, 42, 47, 10]⟩ : ByteArray) ++ s) = aheadL ++ tl s := by simp [tl, aheadL]
    have hz : ((⟨#[32, 47, 42, 47, 42, 42, 47, 42, 47, 10]⟩ : ByteArray) ++ s).size ≤ 2000 := by
      rw [ByteArray.size_append]
      show 10 + s.size ≤ 2000
      omega
    have hsa : scan (tl ((⟨#[32, 47, 42, 47, 42, 42, 47, 42, 47, 10]⟩ : ByteArray) ++ s)) = (scan (tl s)).shift 10 := by rw [htl, scan_ahead]
    rw [scan_f s (by omega), Option.bind_some, if_pos (by omega), scan_f _ (by omega), Option.bind_some]
    cases hr : scan (tl s) with
    | ok l =>
      rw [hr] at hsa
      obtain ⟨v1, v2, v3, v4⟩ := scL_valid _ _ _ _ hr
      rw [tl_len] at v4
      rw [scanF_ok s (by omega) l hr, scanF_ok _ hz _ hsa, if_pos rfl, if_pos rfl]
      rw [pontoonlaw04_LexerAhead.j0, if_neg (by decide)]
      refine ahead_l (l.map tkS) ((l.map fun t => ⟨t.kind, t.text, t.at_ + 10⟩).map tkS) (by rw [List.length_map, List.length_map]; omega) ?_ ?_ ((l.map fun t => (⟨t.kind, t.text, t.at_ + 10⟩ : Tk)).map tkS).length 5999 0 _ (Nat.zero_add _) (by rw [List.length_map, List.length_map]; omega) (by simp)
      · rw [List.map_map, List.map_map]
        congr 1
        funext t
        show tkS t = dn (tkS ⟨t.kind, t.text, t.at_ + 10⟩)
        unfold dn tkS
        congr 1
        show (t.at_ : Int) = ((t.at_ + 10 : Nat) : Int) - 10
        omega
      · intro x hx
        rw [List.map_map] at hx
        obtain ⟨t, ht, rfl⟩ := List.mem_map.1 hx
        have := v2 t ht
        rw [tl_len] at this
        show 0 ≤ ((t.at_ + 10 : Nat) : Int) ∧ ((t.at_ + 10 : Nat) : Int) ≤ 100000
        omega
    | err e a =>
      rw [hr] at hsa
      obtain ⟨w1, w2, w3⟩ := scL_err _ _ _ _ _ (Nat.lt_succ_self _) hr
      rw [tl_len] at w2
      have hsa' : scan (tl ((⟨#[32, 47, 42, 47, 42, 42, 47, 42, 47, 10]⟩ : ByteArray) ++ s)) = .err e (a + 10) := hsa
      rw [scanF_err s (by omega) e a hr, scanF_err _ hz e (a + 10) hsa', if_pos rfl, if_neg (by show ¬ e = 0; omega)]
      have hb : (((a + 10 : Nat) : Int) != wrap64 ((a : Int) + 10)) = false := by
        rw [wrp (by omega) (by omega)]
        simp
      show pontoonlaw04_LexerAhead.j0 6000 [] [] (((a + 10 : Nat) : Int) != wrap64 ((a : Int) + 10)) = some true
      rw [hb, pontoonlaw04_LexerAhead.j0, if_neg (by decide)]
      exact ahead_l [] [] (by simp) rfl (fun x hx => by cases hx) 0 5999 0 [] rfl (by omega) rfl
theorem ahead_walk (s : ByteArray) (_hs : s.size ≤ 140737488351232) (w : World) : Calls Try.prog 7 #[.string s] w fun e w' => e = .returned (.bool true) ∧ Below w.heap.size w w' :=
  pontoonlaw04_LexerAhead.calls 6000 s true w (ahead_f s)
end Go.Proofs.Ytcmjfcfjppioeaa
