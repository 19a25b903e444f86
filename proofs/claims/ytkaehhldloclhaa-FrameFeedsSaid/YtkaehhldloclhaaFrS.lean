/- frame: the document's next message, in plain words. -/
import Derived.Test.YtkaehhldloclhaaFrR
namespace Go.Proofs.Ytkaehhldloclhaa
open Go Go.RowKit Go.Proofs.Ytkaehhldloclhaa.Pr Go.Proofs.YtkaehhldloclhaaW.PrintWords Go.Proofs.YtkaehhldloclhaaW.PrintLast

theorem wrap_in {i : Int} (h : -9223372036854775808 ≤ i) (h2 : i ≤ 9223372036854775807) : wrap64 i = i := by unfold wrap64; omega
theorem bt_nat (s : ByteArray) (i : Nat) (h : i < s.size) : bt s (i : Int) = ((s.data.toList[i]'(by simpa using h)).toNat : Int) := by
  have h' := bt_at s (i : Int) (by simpa using h)
  rw [← h']
  simp [ByteArray.getElem_eq_getElem_data]
theorem refGetBytes (s : ByteArray) (at_ n : Int) (k : Nat) (hk : 0 < k) (h : s.size ≤ 140737488351232) (ha : -9223372036854775808 ≤ at_ ∧ at_ ≤ 9223372036854775807) (hn : -9223372036854775808 ≤ n ∧ n ≤ 9223372036854775807) :
    pontoonref01_GetBytes.f k s at_ n = some (gotF s at_ n) := by
  obtain ⟨k, rfl⟩ : ∃ m, k = m + 1 := ⟨k - 1, by omega⟩
  simp only [pontoonref01_GetBytes.f, gotF]
  by_cases h1 : at_ < 0
  · rw [if_pos h1, if_pos (by omega)]; simp [pontoonref01_GetBytes.j0]
  rw [if_neg h1]
  by_cases h2 : at_ > (s.size : Int)
  · rw [if_pos h2, if_pos (by omega)]; simp [pontoonref01_GetBytes.j0]
  rw [if_neg h2]
  by_cases h3 : n < 0
  · rw [if_pos (by omega)]; simp [pontoonref01_GetBytes.j0, h3]
  rw [if_neg (by omega)]
  simp only [pontoonref01_GetBytes.j0]
  rw [if_neg (by simpa using h3), wrap_in (by omega) (by omega)]
  by_cases h4 : (s.size : Int) - at_ < n
  · rw [if_pos h4, if_pos h4]
  · rw [if_neg h4, if_neg h4, if_pos (by omega), wrap_in (by omega) (by omega), if_pos (by omega), if_pos (by omega)]
theorem numF_of {s : ByteArray} {at_ : Int} {k : Nat} (h : ¬ (at_ < 0 ∨ (s.size : Int) < at_ ∨ (s.size : Int) - at_ < k)) :
    ∃ a : Nat, at_ = a ∧ a + k ≤ s.size ∧ gotF s at_ k = (s.extract a (a + k), at_ + k, 0) ∧ numF s at_ k = (numOf (sgn (s.extract a (a + k)).data.toList) (s.extract a (a + k)).data.toList, at_ + k, 0) := by
  obtain ⟨a, rfl⟩ := Int.eq_ofNat_of_zero_le (show 0 ≤ at_ by omega)
  refine ⟨a, rfl, by omega, ?_, ?_⟩
  · simp only [gotF]; rw [if_neg (by omega), if_neg (by omega), show ((a : Int) + k).toNat = a + k by omega]; rfl
  · have hd : (s.extract a (a + k)).data.toList = (s.data.toList.drop a).take k := by rw [extract_list]; congr 1; omega
    simp only [numF]; rw [if_neg (by omega), if_neg (by omega), hd]; rfl
theorem four_bytes (x : ByteArray) (h : x.size = 4) : ∃ b c d e : UInt8, x.data.toList = [b, c, d, e] := by
  have hl : x.data.toList.length = 4 := by simpa using h
  match hx : x.data.toList, hl with
  | [b, c, d, e], _ => exact ⟨b, c, d, e, rfl⟩
theorem gotF_code {s : ByteArray} {at_ : Int} {k : Nat} {c : Int} (hc : at_ < 0 ∨ (s.size : Int) < at_ ∨ (s.size : Int) - at_ < k) (hg : gotF s at_ k = (⟨#[]⟩, 0, c)) : c ≠ 0 := by
  intro e
  subst e
  simp only [gotF] at hg
  split at hg
  · simp at hg
  · split at hg
    · simp at hg
    · omega
theorem ref32_step (k : Nat) (x : ByteArray) (y n : Int) (i : Nat) (b : UInt8) (hi : i < 4) (hx : x.size = 4) (he : bt x (i : Int) = (b.toNat : Int)) (h1 : 0 ≤ n) (h2 : n ≤ 16777216) :
    pontoonref01_Get32.l0 (k + 1) x y n i = pontoonref01_Get32.l0 k x y (256 * n + (b.toNat : Int)) (i + 1 : Nat) := by
  have hb := b.toNat_lt
  conv => lhs; rw [pontoonref01_Get32.l0]
  rw [if_pos (by omega), if_pos (by omega), if_pos (by omega), he]
  rw [wrap_in (i := (i : Int) + 1) (by omega) (by omega), wrap_in (i := (b.toNat : Int)) (by omega) (by omega), wrap_in (i := 256 * n) (by omega) (by omega), wrap_in (i := 256 * n + (b.toNat : Int)) (by omega) (by omega)]
  rfl
theorem refGet32 (s : ByteArray) (at_ : Int) (k : Nat) (hk : 5 ≤ k) (h : s.size ≤ 140737488351232) (ha : -9223372036854775808 ≤ at_ ∧ at_ ≤ 9223372036854775807) :
    pontoonref01_Get32.f k s at_ = some (numF s at_ 4) := by
  simp only [pontoonref01_Get32.f, refGetBytes s at_ 4 k (by omega) h ha (by omega), Option.bind_some]
  by_cases hc : at_ < 0 ∨ (s.size : Int) < at_ ∨ (s.size : Int) - at_ < (4 : Nat)
  · obtain ⟨c, hg, hn⟩ := numF_bad hc
    have hc0 := gotF_code hc hg
    rw [show ((4 : Nat) : Int) = 4 from rfl] at hg
    rw [hg, hn]
    simp [hc0]
  · obtain ⟨a, rfl, hs, hg, hn⟩ := numF_of hc
    rw [show ((4 : Nat) : Int) = 4 from rfl] at hg
    rw [hg, hn]
    have hx : (s.extract a (a + 4)).size = 4 := by simp [ByteArray.size_extract]; omega
    generalize s.extract a (a + 4) = x at hx
    obtain ⟨b, c, d, e, hbc⟩ := four_bytes x hx
    have e0 := bt_nat x 0 (by omega)
    have e1 := bt_nat x 1 (by omega)
    have e2 := bt_nat x 2 (by omega)
    have e3 := bt_nat x 3 (by omega)
    simp only [hbc, List.getElem_cons_zero, List.getElem_cons_succ] at e0 e1 e2 e3
    have hb := b.toNat_lt
    have hc2 := c.toNat_lt
    have hd := d.toNat_lt
    have he := e.toNat_lt
    obtain ⟨k, rfl⟩ : ∃ m, k = m + 1 + 1 + 1 + 1 + 1 := ⟨k - 5, by omega⟩
    simp only [if_true]
    have s0 := ref32_step (k + 1 + 1 + 1 + 1) x ((a : Int) + 4) 0 0 b (by omega) hx e0 (by omega) (by omega)
    have s1 := ref32_step (k + 1 + 1 + 1) x ((a : Int) + 4) (256 * 0 + b.toNat) 1 c (by omega) hx e1 (by omega) (by omega)
    have s2 := ref32_step (k + 1 + 1) x ((a : Int) + 4) (256 * (256 * 0 + b.toNat) + c.toNat) 2 d (by omega) hx e2 (by omega) (by omega)
    have s3 := ref32_step (k + 1) x ((a : Int) + 4) (256 * (256 * (256 * 0 + b.toNat) + c.toNat) + d.toNat) 3 e (by omega) hx e3 (by omega) (by omega)
    rw [show ((0 : Nat) : Int) = 0 from rfl] at s0
    rw [s0, s1, s2, s3]
    simp only [pontoonref01_Get32.l0]
    rw [if_neg (by omega)]
    simp only [hbc, sgn, numOf]
    by_cases hge : 256 * (256 * (256 * (256 * 0 + (b.toNat : Int)) + c.toNat) + d.toNat) + e.toNat ≥ 2147483648
    · rw [if_pos hge, if_neg (by omega), wrap_in (by omega) (by omega)]
      simp; omega
    · rw [if_neg hge, if_pos (by omega)]
      simp; omega

/-- What the document's next tells, as far as it is used. -/
def nextP (l : ByteArray) (f : Bool) (e : Int) (k : Nat) (x : Nx) : Prop := ∃ (c : UInt8) (b : ByteArray) (n : Nat) (is : Bool) (er : Nat), pontoonref02_Reader_next.f k l f e = some ((c.toNat : Int), b, (n : Int), is, (er : Int), l, f, e) ∧
  match x with
  | .wait => is = false ∧ er = 0
  | .bad q => is = false ∧ er = q ∧ q ≠ 0
  | .msg m r => is = true ∧ er = 0 ∧ m = ⟨c, b⟩ ∧ n ≤ l.size ∧ r = l.extract n l.size
theorem j1_ok (l : ByteArray) (f : Bool) (e : Int) (k : Nat) (q0 : Nat) (N : Int) (c : UInt8) (bad : Bool) (hl : l.size ≤ 140737488351232) (hq0 : q0 ≤ l.size) (hN : -2147483648 ≤ N ∧ N ≤ 2147483648) (hk : 1 ≤ k) :
    ∃ (b : ByteArray) (n : Nat) (is : Bool) (er : Nat), pontoonref02_Reader_next.j1 (k + 1) N q0 bad l f e c.toNat ⟨#[]⟩ = some ((c.toNat : Int), b, (n : Int), is, (er : Int), l, f, e) ∧
      ((bad = true ∧ is = false ∧ er = 5) ∨ (bad = false ∧ N < 4 ∧ is = false ∧ er = 4) ∨ (bad = false ∧ 4096 < N ∧ is = false ∧ er = 2) ∨ (bad = false ∧ 4 ≤ N ∧ N ≤ 4096 ∧ l.size < q0 + (N - 4).toNat ∧ is = false ∧ er = 0) ∨
        (bad = false ∧ 4 ≤ N ∧ N ≤ 4096 ∧ q0 + (N - 4).toNat ≤ l.size ∧ is = true ∧ er = 0 ∧ n = q0 + (N - 4).toNat ∧ b = l.extract q0 (q0 + (N - 4).toNat))) := by
  simp only [pontoonref02_Reader_next.j1]
  cases bad with
  | true => exact ⟨⟨#[]⟩, 0, false, 5, rfl, .inl ⟨rfl, rfl, rfl⟩⟩
  | false =>
    rw [if_neg (by simp)]
    by_cases h1 : N < 4
    · rw [if_pos h1]; exact ⟨⟨#[]⟩, 0, false, 4, rfl, .inr (.inl ⟨rfl, h1, rfl, rfl⟩)⟩
    rw [if_neg h1]
    by_cases h2 : 4096 < N
    · rw [if_pos h2]; exact ⟨⟨#[]⟩, 0, false, 2, rfl, .inr (.inr (.inl ⟨rfl, h2, rfl, rfl⟩))⟩
    rw [if_neg (by omega), wrap_in (by omega) (by omega), refGetBytes l q0 (N - 4) k (by omega) hl (by omega) (by omega), Option.bind_some]
    obtain ⟨q, hq⟩ := Int.eq_ofNat_of_zero_le (show 0 ≤ N - 4 by omega)
    by_cases h3 : l.size < q0 + (N - 4).toNat
    · have hg : gotF l q0 (N - 4) = (⟨#[]⟩, 0, 3) := by simp only [gotF]; rw [if_neg (by omega), if_pos (by omega)]
      rw [hg]
      exact ⟨⟨#[]⟩, 0, false, 0, rfl, .inr (.inr (.inr (.inl ⟨rfl, by omega, by omega, h3, rfl, rfl⟩)))⟩
    · have hg : gotF l q0 (N - 4) = (l.extract q0 (q0 + (N - 4).toNat), (q0 : Int) + (N - 4), 0) := by
        simp only [gotF]; rw [if_neg (by omega), if_neg (by omega), Int.toNat_natCast, show ((q0 : Int) + (N - 4)).toNat = q0 + (N - 4).toNat by omega]
      rw [hg]
      refine ⟨l.extract q0 (q0 + (N - 4).toNat), q0 + (N - 4).toNat, true, 0, ?_, .inr (.inr (.inr (.inr ⟨rfl, by omega, by omega, by omega, rfl, rfl, rfl, rfl⟩)))⟩
      show some ((c.toNat : Int), l.extract q0 (q0 + (N - 4).toNat), (q0 : Int) + (N - 4), true, (0 : Int), l, f, e) = _
      rw [show (q0 : Int) + (N - 4) = ((q0 + (N - 4).toNat : Nat) : Int) by omega]
      rfl
theorem head_of (x : List UInt8) (h : 0 < x.length) : x[0] = x.headD 0 := by
  cases x with
  | nil => simp at h
  | cons c r => rfl
theorem numOf4 (x : List UInt8) (h : x.length = 4) : -2147483648 ≤ numOf (sgn x) x ∧ numOf (sgn x) x ≤ 2147483648 := by
  match x, h with
  | [b, c, d, e], _ =>
    have hb := b.toNat_lt
    have hc := c.toNat_lt
    have hd := d.toNat_lt
    have he := e.toNat_lt
    simp only [sgn, numOf]
    split <;> omega
theorem next_f (l : ByteArray) (f : Bool) (e : Int) (k : Nat) (hl : l.size ≤ 140737488351232) (hk : 7 ≤ k) : nextP l f e k (nextF l f) := by
  unfold nextP pontoonref02_Reader_next.f nextF
  obtain ⟨k, rfl⟩ : ∃ m, k = m + 2 := ⟨k - 2, by omega⟩
  have hlen : l.data.toList.length = l.size := by simp
  -- the number
  have num : ∀ a : Nat, a + 4 ≤ l.size → ∃ N, numF l a 4 = (N, ((a + 4 : Nat) : Int), 0) ∧ -2147483648 ≤ N ∧ N ≤ 2147483648 := fun a ha => by
    refine ⟨numOf (sgn ((l.data.toList.drop a).take 4)) ((l.data.toList.drop a).take 4), ?_, numOf4 _ (by simp; omega)⟩
    simp only [numF]
    rw [if_neg (by omega), if_neg (by omega), Int.toNat_natCast]
    rfl
  have short : ∀ a : Nat, l.size < a + 4 → ∃ c : Int, numF l a 4 = (0, 0, c) ∧ c ≠ 0 := fun a ha => by
    simp only [numF]
    by_cases h1 : (a : Int) < 0 ∨ (l.size : Int) < a
    · exact ⟨1, by rw [if_pos h1], by decide⟩
    · exact ⟨3, by rw [if_neg h1, if_pos (by omega)], by decide⟩
  cases f with
  | true =>
    rw [if_pos rfl]
    simp only [pontoonref02_Reader_next.j0]
    have g0 := refGet32 l 0 (k + 1) (by omega) hl (by omega)
    rw [g0, Option.bind_some]
    by_cases h1 : l.size < hd true
    · rw [if_pos h1]
      obtain ⟨c, hc, hc0⟩ := short 0 (by simpa [hd] using h1)
      rw [show ((0 : Nat) : Int) = 0 from rfl] at hc
      rw [hc]
      dsimp only
      rw [if_neg hc0]
      exact ⟨0, ⟨#[]⟩, 0, false, 0, rfl, rfl, rfl⟩
    · rw [if_neg h1]
      have h1' : 4 ≤ l.size := by simp [hd] at h1; omega
      obtain ⟨N, hN, hb⟩ := num 0 (by omega)
      have hL : lenF l true = N := by unfold lenF; rw [show ((hd true : Nat) : Int) - 4 = ((0 : Nat) : Int) from rfl, hN]
      rw [show ((0 : Nat) : Int) = 0 from rfl] at hN
      rw [hN, hL]
      dsimp only
      rw [if_pos rfl, if_pos trivial]
      obtain ⟨b, n, is, er, hj, hor⟩ := j1_ok l true e k 4 N 0 false hl h1' hb (by omega)
      refine ⟨0, b, n, is, er, hj, ?_⟩
      rw [if_neg (fun hc => by cases hc.1)]
      rcases hor with ⟨h, _⟩ | ⟨_, h2, h3, h4⟩ | ⟨_, h2, h3, h4⟩ | ⟨_, h2, h3, h4, h5, h6⟩ | ⟨_, h2, h3, h4, h5, h6, h7, h8⟩
      · cases h
      · rw [if_pos h2]; exact ⟨h3, h4, by decide⟩
      · rw [if_neg (by omega), if_pos h2]; exact ⟨h3, h4, by decide⟩
      · rw [if_neg (by omega), if_neg (by omega), if_pos (by simp [hd]; omega)]; exact ⟨h5, h6⟩
      · rw [if_neg (by omega), if_neg (by omega), if_neg (by simp [hd]; omega)]
        have e1 : hd true - 4 + N.toNat = 4 + (N - 4).toNat := by simp [hd]; omega
        refine ⟨h5, h6, ?_, by omega, ?_⟩
        · rw [e1, h8]; rfl
        · rw [e1, h7]
  | false =>
    rw [if_neg (by simp)]
    by_cases h0 : l.size = 0
    · rw [if_pos (by omega), if_pos (by simp [hd]; omega)]
      exact ⟨0, ⟨#[]⟩, 0, false, 0, rfl, rfl, rfl⟩
    rw [if_neg (by omega), if_pos (by omega)]
    have hbt : bt l 0 = ((kindF l false).toNat : Int) := by
      have h2 := bt_nat l 0 (by omega)
      rw [show ((0 : Nat) : Int) = 0 from rfl] at h2
      rw [h2]
      unfold kindF
      rw [if_neg (by simp)]
      congr 2
      exact head_of _ (by omega)
    rw [hbt]
    generalize kindF l false = c
    simp only [pontoonref02_Reader_next.j0]
    have g0 := refGet32 l 1 (k + 1) (by omega) hl (by omega)
    rw [g0, Option.bind_some]
    by_cases h1 : l.size < hd false
    · rw [if_pos h1]
      obtain ⟨q, hc, hc0⟩ := short 1 (by simpa [hd] using h1)
      rw [show ((1 : Nat) : Int) = 1 from rfl] at hc
      rw [hc]
      dsimp only
      rw [if_neg hc0]
      exact ⟨c, ⟨#[]⟩, 0, false, 0, rfl, rfl, rfl⟩
    · rw [if_neg h1]
      have h1' : 5 ≤ l.size := by simp [hd] at h1; omega
      obtain ⟨N, hN, hb⟩ := num 1 (by omega)
      have hL : lenF l false = N := by unfold lenF; rw [show ((hd false : Nat) : Int) - 4 = ((1 : Nat) : Int) from rfl, hN]
      rw [show ((1 : Nat) : Int) = 1 from rfl] at hN
      rw [hN, hL]
      dsimp only
      rw [if_pos rfl, if_neg (by simp)]
      have hpr : ∃ bad : Bool, (if (c.toNat : Int) < 33 then pontoonref02_Reader_next.j1 (k + 1) N ((1 + 4 : Nat) : Int) true l false e c.toNat ⟨#[]⟩ else pontoonref02_Reader_next.j1 (k + 1) N ((1 + 4 : Nat) : Int) (decide ((c.toNat : Int) > 126)) l false e c.toNat ⟨#[]⟩) = pontoonref02_Reader_next.j1 (k + 1) N ((5 : Nat) : Int) bad l false e c.toNat ⟨#[]⟩ ∧ printable c = !bad := by
        by_cases h3 : (c.toNat : Int) < 33
        · exact ⟨true, by rw [if_pos h3], by simp [printable]; omega⟩
        · refine ⟨decide ((c.toNat : Int) > 126), by rw [if_neg h3], ?_⟩
          by_cases h4 : (c.toNat : Int) > 126
          · rw [decide_eq_true h4]; simp [printable]; omega
          · rw [decide_eq_false h4]; simp [printable]; omega
      obtain ⟨bad, hbad, hpb⟩ := hpr
      rw [hbad]
      obtain ⟨b, n, is, er, hj, hor⟩ := j1_ok l false e k 5 N c bad hl h1' hb (by omega)
      refine ⟨c, b, n, is, er, hj, ?_⟩
      rcases hor with ⟨h, h2, h3⟩ | ⟨h, h2, h3, h4⟩ | ⟨h, h2, h3, h4⟩ | ⟨h, h2, h3, h4, h5, h6⟩ | ⟨h, h2, h3, h4, h5, h6, h7, h8⟩
      · subst h
        rw [if_pos ⟨trivial, hpb⟩]
        exact ⟨h2, h3, by decide⟩
      all_goals
        subst h
        rw [if_neg (fun hc => by rw [hpb] at hc; cases hc.2)]
      · rw [if_pos h2]; exact ⟨h3, h4, by decide⟩
      · rw [if_neg (by omega), if_pos h2]; exact ⟨h3, h4, by decide⟩
      · rw [if_neg (by omega), if_neg (by omega), if_pos (by simp [hd]; omega)]; exact ⟨h5, h6⟩
      · rw [if_neg (by omega), if_neg (by omega), if_neg (by simp [hd]; omega)]
        have e1 : hd false - 4 + N.toNat = 5 + (N - 4).toNat := by simp [hd]; omega
        refine ⟨h5, h6, ?_, by omega, ?_⟩
        · rw [e1, h8]; rfl
        · rw [e1, h7]
end Go.Proofs.Ytkaehhldloclhaa
