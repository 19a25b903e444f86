/- lexer: LexerTells answers true. -/
import Derived.Test.YtcmjfcfjppioeaaLxQ1
import Derived.Test.YtcmjfcfjppioeaaPbx9
import Derived.Test.YtcmjfcfjppioeaaKdS
namespace Go.Proofs.Ytcmjfcfjppioeaa
open Go Go.RowKit Go.Proofs.Ytcmjfcfjppioeaa.Pb Go.Proofs.YtcmjfcfjppioeaaW.PrintWords Go.Proofs.YtcmjfcfjppioeaaW.PrintLast
set_option linter.unusedSimpArgs false

/-! the document's Show -/
theorem rdouble_l (s : ByteArray) (q : UInt8) (hs : s.size ≤ 100000) : ∀ (m k i : Nat) (acc : List UInt8), i + m = s.size → m < k → acc.length ≤ 2 * i + 1 → pontoonref04_double.l0 k s (ofL [q]) (ofL acc) (i : Int) = some (ofL (acc ++ esc q ((tl s).drop i) ++ [q])) := by
  have hq1 : (ofL [q]).size = 1 := by rw [ofL_size]; rfl
  intro m
  induction m with
  | zero =>
    intro k i acc hi hk ha
    obtain ⟨k, rfl⟩ : ∃ j, k = j + 1 := ⟨k - 1, by omega⟩
    simp only [pontoonref04_double.l0]
    rw [if_neg (by omega), if_pos (by rw [ofL_size, hq1]; omega), List.drop_of_length_le (by rw [tl_len]; omega), app_ofL, tl_ofL]
    simp [esc]
  | succ m ih =>
    intro k i acc hi hk ha
    obtain ⟨k, rfl⟩ : ∃ j, k = j + 1 := ⟨k - 1, by omega⟩
    have hlt : i < s.size := by omega
    have hx : s.extract i (i + 1) = ofL [s[i]] := tl_inj (by
      rw [tl_ext, tl_ofL, List.drop_take, dropc s i hlt, Nat.add_sub_cancel_left]
      rfl)
    have hx1 : ∀ b : UInt8, (ofL [b]).size = 1 := fun b => by rw [ofL_size]; rfl
    simp only [pontoonref04_double.l0]
    rw [if_pos (by omega), if_pos (by omega), wrp (by omega) (by omega), if_pos (by omega), if_pos (by omega), Int.toNat_natCast, show ((i : Int) + 1).toNat = i + 1 by omega, show ((i : Int) + 1) = ((i + 1 : Nat) : Int) by omega, hx, dropc s i hlt]
    by_cases hq : s[i] = q
    · have e : esc q (s[i] :: (tl s).drop (i + 1)) = q :: q :: esc q ((tl s).drop (i + 1)) := if_pos hq
      rw [if_pos (by rw [hq]), if_pos (by rw [ofL_size, hq1]; omega), app_ofL, tl_ofL, if_pos (by rw [ofL_size, hx1, List.length_append]; simp; omega), app_ofL, tl_ofL, ih k (i + 1) _ (by omega) (by omega) (by simp; omega), e, hq]
      simp
    · have e : esc q (s[i] :: (tl s).drop (i + 1)) = s[i] :: esc q ((tl s).drop (i + 1)) := if_neg hq
      rw [if_neg (by
        rw [toL, toL, tl_ofL, tl_ofL]
        intro h
        exact hq (List.cons.inj h).1), if_pos (by rw [ofL_size, hx1]; omega), app_ofL, tl_ofL, ih k (i + 1) _ (by omega) (by omega) (by simp; omega), e]
      simp
theorem rdouble_f (s : ByteArray) (q : UInt8) (hs : s.size ≤ 100000) (k : Nat) (hk : s.size < k) : pontoonref04_double.f k s (ofL [q]) = some (ofL (dbl q (tl s))) := by
  have := rdouble_l s q hs s.size k 0 [q] (by omega) hk (by simp)
  rw [List.drop_zero] at this
  exact this
theorem rshow_l (l : List S30) (B : Nat) (hB : B ≤ 3000) (hn : l.length ≤ 3000) (hx : ∀ x ∈ l, x.f1.size ≤ B) : ∀ (m k i : Nat) (acc : ByteArray), i + m = l.length → 2 * m + B + 5 < k → acc.size ≤ i * 6010 → pontoonref04_Show.l0 k l acc (i : Int) = some (ofL (tl acc ++ (if i = 0 then showS (l.drop i) else shR (l.drop i)))) := by
  intro m
  induction m with
  | zero =>
    intro k i acc hi hk ha
    obtain ⟨k, rfl⟩ : ∃ j, k = j + 1 := ⟨k - 1, by omega⟩
    simp only [pontoonref04_Show.l0]
    rw [if_neg (by omega), List.drop_of_length_le (by omega)]
    have : (if i = 0 then showS [] else shR []) = [] := by split <;> rfl
    rw [this, List.append_nil, ofL_tl]
  | succ m ih =>
    intro k i acc hi hk ha
    obtain ⟨k, rfl⟩ : ∃ j, k = j + 2 := ⟨k - 2, by omega⟩
    have hlt : i < l.length := by omega
    have hsz := hx l[i] (List.getElem_mem hlt)
    have hJ : ∀ acc : ByteArray, acc.size ≤ i * 6010 + 1 → pontoonref04_Show.j1 (k + 1) l acc (i : Int) = some (ofL (tl acc ++ shT l[i] ++ shR (l.drop (i + 1)))) := by
      intro acc ha
      have hlen := shT_len l[i]
      have hnx : ∀ t : ByteArray, tl t = shT l[i] → pontoonref04_Show.l0 k l (acc ++ t) (wrap64 ((i : Int) + 1)) = some (ofL (tl acc ++ shT l[i] ++ shR (l.drop (i + 1)))) := by
        intro t ht
        have hts : t.size ≤ 2 * B + 2 := by rw [← tl_len, ht]; omega
        rw [wrp (by omega) (by omega), show ((i : Int) + 1) = ((i + 1 : Nat) : Int) by omega, ih k (i + 1) (acc ++ t) (by omega) (by omega) (by rw [ByteArray.size_append]; omega), if_neg (by omega)]
        congr 2
        rw [app_tl, tl_ofL, ht]
      simp only [pontoonref04_Show.j1]
      rw [if_pos (by omega), if_pos (by omega), rdT l i hlt]
      by_cases h2 : l[i].f0 = 2
      · have e : shT l[i] = dbl 34 (tl l[i].f1) := by unfold shT showT; rw [if_pos h2]
        have hd : pontoonref04_double.f k l[i].f1 (⟨#[34]⟩ : ByteArray) = some (ofL (dbl 34 (tl l[i].f1))) := rdouble_f l[i].f1 34 (by omega) k (by omega)
        rw [if_pos h2, hd, Option.bind_some, if_pos (by rw [ofL_size, ← e]; omega)]
        exact hnx _ (by rw [tl_ofL, e])
      · rw [if_neg h2]
        by_cases h3 : l[i].f0 = 3
        · have e : shT l[i] = dbl 39 (tl l[i].f1) := by unfold shT showT; rw [if_neg h2, if_pos h3]
          have hd : pontoonref04_double.f k l[i].f1 (⟨#[39]⟩ : ByteArray) = some (ofL (dbl 39 (tl l[i].f1))) := rdouble_f l[i].f1 39 (by omega) k (by omega)
          rw [if_pos h3, hd, Option.bind_some, if_pos (by rw [ofL_size, ← e]; omega)]
          exact hnx _ (by rw [tl_ofL, e])
        · have e : shT l[i] = tl l[i].f1 := by unfold shT showT; rw [if_neg h2, if_neg h3]
          rw [if_neg h3, if_pos (by omega)]
          exact hnx _ e.symm
    rw [show k + 2 = (k + 1) + 1 from rfl, pontoonref04_Show.l0, if_pos (by omega), List.drop_eq_getElem_cons hlt]
    by_cases h0 : i = 0
    · subst h0
      rw [if_neg (by omega), if_pos rfl, hJ acc (by omega), List.append_assoc]
      rfl
    · rw [if_pos (by omega), if_pos (by omega), if_neg h0, hJ _ (by rw [ByteArray.size_append]; show acc.size + 1 ≤ _; omega)]
      congr 2
      rw [app_tl, tl_ofL]
      show (tl acc ++ [32]) ++ shT l[i] ++ shR (l.drop (i + 1)) = tl acc ++ (32 :: shT l[i] ++ shR (l.drop (i + 1)))
      simp
theorem rshow_f (l : List S30) (B : Nat) (hB : B ≤ 3000) (hn : l.length ≤ 3000) (hx : ∀ x ∈ l, x.f1.size ≤ B) (k : Nat) (hk : 2 * l.length + B + 5 < k) : pontoonref04_Show.f k l = some (ofL (showS l)) := by
  have := rshow_l l B hB hn hx l.length k 0 ⟨#[]⟩ (by omega) hk (Nat.zero_le _)
  rw [if_pos rfl, List.drop_zero] at this
  exact this
/-! the document's Split -/
theorem sep_eq (x : S30) : sepB x = (x.f0 == 5 && x.f1.toList == [59]) := rfl
theorem rsplit_l (l : List S30) (hn : l.length ≤ 500) : ∀ (m k i : Nat) (out : List (List S30)) (now : List S30), i + m = l.length → 2 * m + 6 < k → out.length + now.length ≤ i → pontoonref04_Split.l0 k l out now (i : Int) = some (spl (l.drop i) out now) := by
  intro m
  induction m with
  | zero =>
    intro k i out now hi hk ha
    obtain ⟨k, rfl⟩ : ∃ j, k = j + 3 := ⟨k - 3, by omega⟩
    have hend : ∀ (o n : List S30) (r : List (List S30)), pontoonref04_Split.l0 (k + 1) l r n (wrap64 ((i : Int) + 1)) = some r := by
      intro _ n r
      rw [wrp (by omega) (by omega), pontoonref04_Split.l0, if_neg (by omega)]
    rw [show k + 3 = (k + 2) + 1 from rfl, pontoonref04_Split.l0, if_pos (by omega), if_neg (by omega), show k + 2 = (k + 1) + 1 from rfl, pontoonref04_Split.j1, if_neg (by decide), List.drop_of_length_le (by omega)]
    show _ = some (flush out now)
    unfold flush
    by_cases h0 : now.length = 0
    · rw [if_neg (by omega), if_pos h0]
      exact hend [] _ _
    · rw [if_pos (by omega), if_neg h0, if_pos (by omega)]
      exact hend [] _ _
  | succ m ih =>
    intro k i out now hi hk ha
    obtain ⟨k, rfl⟩ : ∃ j, k = j + 2 := ⟨k - 2, by omega⟩
    have hlt : i < l.length := by omega
    have hw : wrap64 ((i : Int) + 1) = ((i + 1 : Nat) : Int) := by rw [wrp (by omega) (by omega)]; omega
    have hno : sepB l[i] = false → pontoonref04_Split.j1 (k + 1) l out now (i : Int) true = some (spl (l.drop i) out now) := by
      intro hs
      rw [pontoonref04_Split.j1, if_pos rfl, if_pos (by omega), if_pos (by omega), if_pos (by omega), rdT l i hlt, hw, ih k (i + 1) _ _ (by omega) (by omega) (by rw [List.length_append, List.length_singleton]; omega), List.drop_eq_getElem_cons hlt]
      show _ = some (if sepB l[i] = true then _ else spl (l.drop (i + 1)) out (now ++ [l[i]]))
      rw [hs, if_neg (by decide)]
    have hyes : sepB l[i] = true → pontoonref04_Split.j1 (k + 1) l out now (i : Int) false = some (spl (l.drop i) out now) := by
      intro hs
      rw [pontoonref04_Split.j1, if_neg (by decide), List.drop_eq_getElem_cons hlt]
      show _ = some (if sepB l[i] = true then spl (l.drop (i + 1)) (flush out now) [] else _)
      rw [hs, if_pos rfl, hw]
      unfold flush
      by_cases h0 : now.length = 0
      · rw [if_neg (by omega), if_pos h0, ih k (i + 1) _ _ (by omega) (by omega) (by simp; omega)]
      · rw [if_pos (by omega), if_neg h0, if_pos (by omega), ih k (i + 1) _ _ (by omega) (by omega) (by simp; omega)]
    rw [show k + 2 = (k + 1) + 1 from rfl, pontoonref04_Split.l0, if_pos (by omega), if_pos (by omega), if_pos (by omega), rdT l i hlt]
    by_cases h5 : l[i].f0 = 5
    · rw [if_pos h5]
      by_cases h59 : l[i].f1.toList = [59]
      · have hb : (l[i].f1.toList != [59]) = false := by rw [bne_eq_false_iff_eq]; exact h59
        rw [hb]
        exact hyes (by rw [sep_eq, beq_iff_eq.2 h5, beq_iff_eq.2 h59]; rfl)
      · have hb : (l[i].f1.toList != [59]) = true := by rw [bne_iff_ne]; exact h59
        rw [hb]
        exact hno (by rw [sep_eq, beq_eq_false_iff_ne.2 h59, Bool.and_false])
    · rw [if_neg h5]
      exact hno (by rw [sep_eq, beq_eq_false_iff_ne.2 h5, Bool.false_and])
theorem rsplit_f (l : List S30) (hn : l.length ≤ 500) (k : Nat) (hk : 2 * l.length + 6 < k) : pontoonref04_Split.f k l = some (spl l [] []) := rsplit_l l hn l.length k 0 [] [] (by omega) hk (Nat.le_refl _)
theorem spl_len : ∀ (l : List S30) (out : List (List S30)) (now : List S30) (N : Nat), (∀ x ∈ out, x.length ≤ N) → now.length + l.length ≤ N → (spl l out now).length ≤ out.length + l.length + 1 ∧ ∀ x ∈ spl l out now, x.length ≤ N := by
  have hf : ∀ (out : List (List S30)) (now : List S30) (N : Nat), (∀ x ∈ out, x.length ≤ N) → now.length ≤ N → (flush out now).length ≤ out.length + 1 ∧ ∀ x ∈ flush out now, x.length ≤ N := by
    intro out now N h1 h2
    unfold flush
    split
    · exact ⟨by omega, h1⟩
    · refine ⟨by simp, fun x hx => ?_⟩
      rcases List.mem_append.1 hx with hx | hx
      · exact h1 x hx
      · rw [List.mem_singleton] at hx
        rw [hx]
        exact h2
  intro l
  induction l with
  | nil =>
    intro out now N h1 h2
    obtain ⟨a, b⟩ := hf out now N h1 (by simpa using h2)
    exact ⟨by show (flush out now).length ≤ _; omega, b⟩
  | cons x r ih =>
    intro out now N h1 h2
    simp only [List.length_cons] at h2 ⊢
    show (if sepB x = true then spl r (flush out now) [] else spl r out (now ++ [x])).length ≤ _ ∧ ∀ y ∈ (if sepB x = true then spl r (flush out now) [] else spl r out (now ++ [x])), _
    split
    · obtain ⟨a, b⟩ := hf out now N h1 (by omega)
      obtain ⟨c, d⟩ := ih (flush out now) [] N b (by simp; omega)
      exact ⟨by omega, d⟩
    · obtain ⟨c, d⟩ := ih out (now ++ [x]) N h1 (by simp; omega)
      exact ⟨by omega, d⟩
theorem tells_l1 (l : List S30) (S : List (List S30)) (hl : l.length ≤ 100) (ht : ∀ x ∈ l, x.f1.size ≤ 200) (hS : S.length ≤ 200) (hS2 : ∀ x ∈ S, x.length ≤ 200) : ∀ (m k i : Nat), i + m = S.length → m + 1000 < k → pontoonlaw04_LexerTells.l1 k l S S (i : Int) = some true := by
  intro m
  induction m with
  | zero =>
    intro k i hi hk
    obtain ⟨k, rfl⟩ : ∃ j, k = j + 1 := ⟨k - 1, by omega⟩
    simp only [pontoonlaw04_LexerTells.l1]
    rw [if_neg (by omega), show_f l 200 (by omega) (by omega) ht k (by omega), rshow_f l 200 (by omega) (by omega) ht k (by omega), Option.bind_some, Option.bind_some, if_pos rfl, known_up k (by omega)]
    rfl
  | succ m ih =>
    intro k i hi hk
    obtain ⟨k, rfl⟩ : ∃ j, k = j + 1 := ⟨k - 1, by omega⟩
    have hlt : i < S.length := by omega
    have hrd : rd_L4 S (i : Int) = S[i] := by
      unfold rd_L4
      rw [Int.toNat_natCast, List.getD_eq_getElem?_getD, List.getElem?_eq_getElem hlt]
      rfl
    have hle := hS2 S[i] (List.getElem_mem hlt)
    simp only [pontoonlaw04_LexerTells.l1]
    rw [if_pos (by omega), if_pos (by omega), if_pos (by omega), hrd, same_self _ true k (by omega) (by omega), Option.bind_some, if_pos rfl, wrp (by omega) (by omega), show ((i : Int) + 1) = ((i + 1 : Nat) : Int) by omega]
    exact ih k (i + 1) (by omega) (by omega)
theorem tells_l0 (l : List S30) (hl : l.length ≤ 100) : ∀ (m k i : Nat), i + m = l.length → m + 2000 < k → (∀ x ∈ l.take i, x.f1.size ≤ 200) → pontoonlaw04_LexerTells.l0 k l (i : Int) = some true := by
  intro m
  induction m with
  | zero =>
    intro k i hi hk hx
    obtain ⟨k, rfl⟩ : ∃ j, k = j + 1 := ⟨k - 1, by omega⟩
    rw [List.take_of_length_le (by omega)] at hx
    obtain ⟨a, b⟩ := spl_len l [] [] 200 (fun x hx => by cases hx) (by simp; omega)
    have hsp : lexer_Split.f l = some (spl l [] []) := if_pos (by omega)
    simp only [pontoonlaw04_LexerTells.l0]
    rw [if_neg (by omega), hsp, Option.bind_some, rsplit_f l (by omega) k (by omega), Option.bind_some, if_pos rfl]
    exact tells_l1 l _ hl hx (by simp at a; omega) b _ k 0 (Nat.zero_add _) (by simp at a; omega)
  | succ m ih =>
    intro k i hi hk hx
    obtain ⟨k, rfl⟩ : ∃ j, k = j + 1 := ⟨k - 1, by omega⟩
    have hlt : i < l.length := by omega
    simp only [pontoonlaw04_LexerTells.l0]
    rw [if_pos (by omega), if_pos (by omega), rdT l i hlt]
    by_cases hz : (l[i].f1.size : Int) > 200
    · rw [if_pos hz, known_up k (by omega)]
      rfl
    · rw [if_neg hz, wrp (by omega) (by omega), show ((i : Int) + 1) = ((i + 1 : Nat) : Int) by omega]
      refine ih k (i + 1) (by omega) (by omega) (fun x hxm => ?_)
      rw [List.take_succ_eq_append_getElem hlt] at hxm
      rcases List.mem_append.1 hxm with h | h
      · exact hx x h
      · rw [List.mem_singleton] at h
        rw [h]
        omega
theorem tells_f (l : List S30) : pontoonlaw04_LexerTells.f 3000 l = some true := by
  unfold pontoonlaw04_LexerTells.f
  split
  · rw [known_up 3000 (by omega)]
    rfl
  · exact tells_l0 l (by omega) l.length 3000 0 (by omega) (by omega) (fun x hx => by simp at hx)
theorem toks_arg {w : World} {m base : Nat} {v : Value} (hv : Value.okWide Try.prog w .any base 23 v) (h : Rd Try.prog w m 23 v.cells.toList) : ∃ A cp l, v = .slice A l.length cp ∧ Kd.C k30 w A l.length l ∧ l.length ≤ cp := by
  obtain ⟨A0, n0, cp0, rfl⟩ := Go.WideShapes.okWide_slice Try.underlying23 hv
  obtain ⟨A, cp, l, e, h1, h2, _⟩ := C_of_rd k30 (t := 23) (e := 30) Try.underlying23 (by kernel_rfl) (by decide) (fun m cs h => by
    obtain ⟨hl, m', hf⟩ := Rd.struct Try.underlying30 h
    have hl3 : cs.length = 3 := by rw [hl]; kernel_rfl
    obtain ⟨a, b, c, rfl⟩ : ∃ a b c, cs = [a, b, c] := by
      match cs, hl3 with
      | [a, b, c], _ => exact ⟨a, b, c, rfl⟩
    have cI : (Try.prog.cellsOf 3) = 1 := by kernel_rfl
    have cS : (Try.prog.cellsOf 9) = 1 := by kernel_rfl
    have f0 : Rd _ _ _ 3 [a] := Rd.field hf 0 rfl cI
    have f1 : Rd _ _ _ 9 [b] := Rd.field hf 1 rfl cS
    have f2 : Rd _ _ _ 3 [c] := Rd.field hf 2 rfl cI
    obtain ⟨x, hx, _⟩ := f0.int Try.underlying3
    obtain ⟨y, hy, _⟩ := f1.str Try.underlying9
    obtain ⟨z, hz, _⟩ := f2.int Try.underlying3
    cases hx; cases hy; cases hz
    exact ⟨(⟨x, y, z⟩ : S30), [.int .i64 x], [.string y, .int .i64 z], rfl, rfl, [.string y], [.int .i64 z], rfl, rfl, rfl⟩) h
  simp [Value.cells] at e
  obtain ⟨rfl, rfl, rfl⟩ := e
  exact ⟨_, _, l, rfl, h1, h2⟩
theorem tells_walk {w : World} {m base : Nat} {v : Value} (hv : Value.okWide Try.prog w .any base 23 v) (h : Rd Try.prog w m 23 v.cells.toList) : Calls Try.prog 4 #[v] w fun e w' => e = .returned (.bool true) ∧ Below w.heap.size w w' := by
  obtain ⟨A, cp, l, rfl, h1, h2⟩ := toks_arg hv h
  exact pontoonlaw04_LexerTells.calls 3000 A cp l true w h1 h2 (tells_f l)
end Go.Proofs.Ytcmjfcfjppioeaa
