/- A gauge's Merge. -/
import Derived.Test.YtmgcmheiabmajaaGa7
namespace Go.Proofs.Ytmgcmheiabmajaa
open Go Go.RowKit Go.Proofs.YtmgcmheiabmajaaW.PrintWords Go.Proofs.YtmgcmheiabmajaaW.PrintLast

def mergeL (L M : List SB) : List SB := List.zipWith (fun x y => ⟨x.b, x.c + y.c⟩) L M
/-- The first k counts are merged. -/
def mergeK (L M : List SB) (k : Nat) : List SB := mergeL (L.take k) (M.take k) ++ L.drop k
theorem mergeK_zero (L M : List SB) : mergeK L M 0 = L := rfl
theorem mergeK_all (L M : List SB) (n : Nat) (h1 : L.length ≤ n) (h2 : M.length ≤ n) : mergeK L M n = mergeL L M := by
  unfold mergeK
  rw [List.take_of_length_le h1, List.take_of_length_le h2, List.drop_of_length_le h1, List.append_nil]
theorem mergeK_len (L M : List SB) (h : L.length = M.length) (k : Nat) (hk : k ≤ L.length) : (mergeL (L.take k) (M.take k)).length = k := by
  unfold mergeL
  rw [List.length_zipWith, List.length_take, List.length_take]
  omega
theorem mergeK_at (L M : List SB) (h : L.length = M.length) (k : Nat) (hk : k < L.length) : (mergeK L M k)[k]? = L[k]? := by
  unfold mergeK
  rw [List.getElem?_append_right (by rw [mergeK_len L M h k (by omega)]; exact Nat.le_refl _), mergeK_len L M h k (by omega), Nat.sub_self, List.getElem?_drop, Nat.add_zero]
theorem modify_mid {α : Type} (f : α → α) (x : α) (B : List α) : ∀ A : List α, (A ++ x :: B).modify A.length f = A ++ f x :: B
  | [] => rfl
  | a :: A => by
    have := modify_mid f x B A
    show a :: ((A ++ x :: B).modify A.length f) = _
    rw [this]
    rfl
theorem mergeK_put (L M : List SB) (h : L.length = M.length) (k : Nat) (x y : SB) (hx : L[k]? = some x) (hy : M[k]? = some y) : putC (mergeK L M k) k (x.c + y.c) = mergeK L M (k + 1) := by
  have hkl : k < L.length := (List.getElem?_eq_some_iff.1 hx).1
  have hkm : k < M.length := by omega
  have hl := mergeK_len L M h k (by omega)
  have e1 : L[k] = x := (List.getElem?_eq_some_iff.1 hx).2
  have e2 : M[k] = y := (List.getElem?_eq_some_iff.1 hy).2
  unfold putC mergeK
  have hm := modify_mid (fun z : SB => (⟨z.b, x.c + y.c⟩ : SB)) x (L.drop (k + 1)) (mergeL (L.take k) (M.take k))
  rw [hl] at hm
  rw [List.drop_eq_getElem_cons hkl, e1, hm]
  have : mergeL (L.take (k + 1)) (M.take (k + 1)) = mergeL (L.take k) (M.take k) ++ [⟨x.b, x.c + y.c⟩] := by
    unfold mergeL
    rw [List.take_succ_eq_append_getElem hkl, List.take_succ_eq_append_getElem hkm, e1, e2, List.zipWith_append (by rw [List.length_take, List.length_take]; omega)]
    rfl
  rw [this, List.append_assoc]
  rfl
section
variable {w : World} {p b cp : Nat} {L : List SB} {t s : Int} {p2 b2 cp2 : Nat} {M : List SB} {t2 s2 : Int}
theorem merge_nil (h : GA w p b cp L t s) : Calls Try.prog 21 #[.pointer (some ⟨p, 0, none⟩), .pointer none] w fun e w' => e = .returned (.int .i64 12) ∧ w' = w := by
  have HT := Lib.hid (there_any h)
  have HN := Lib.hid (there_nil w)
  clear h
  go_enter Try.func21, Try.ntmps21
  repeat (first | go_step3 | go_values | go_skip | go_guarded | go_step | go_upon)
  (go_at_call 23; refine HT.out.mono ?_; rintro e w1 ⟨rfl, rfl⟩; dsimp only)
  repeat (first | go_step3 | go_values | go_skip | go_guarded | go_step | go_upon)
  (go_at_call 23; refine HN.out.mono ?_; rintro e w1 ⟨rfl, rfl⟩; dsimp only)
  repeat (first | go_step3 | go_values | go_skip | go_guarded | go_step | go_upon)
  go_ret
  exact ⟨rfl, rfl⟩
def MergeP (w : World) (p b cp : Nat) (L : List SB) (t s : Int) (M : List SB) (t2 s2 : Int) (e : Ending) (w' : World) : Prop :=
  (L.map (·.b) = M.map (·.b) ∧ e = .returned (.int .i64 0) ∧ GA w' p b cp (mergeL L M) (t + t2) (mn (s + s2) cutI) ∧ Touch [p, b] w w') ∨ (L.map (·.b) ≠ M.map (·.b) ∧ e = .returned (.int .i64 1) ∧ Below w.heap.size w w')
set_option maxHeartbeats 4000000 in
theorem merge_any (h : GA w p b cp L t s) (h2 : GA w p2 b2 cp2 M t2 s2) (hs : Sm L t s) (hs2 : Sm M t2 s2) : Calls Try.prog 21 #[.pointer (some ⟨p, 0, none⟩), .pointer (some ⟨p2, 0, none⟩)] w (MergeP w p b cp L t s M t2 s2) := by
  have hub := Try.underlying50
  have HT := Lib.hid (there_any h)
  have HT2 := Lib.hid (there_any h2)
  have HG := Lib.hid h
  have HG2 := Lib.hid h2
  have HS := Lib.hid hs
  have HS2 := Lib.hid hs2
  have hlen : L.length ≤ 101 := h.few.2
  have hlen2 : M.length ≤ 101 := h2.few.2
  obtain ⟨c0, c1, c2, _⟩ := h.cells
  obtain ⟨k0, k1, k2, _⟩ := h2.cells
  clear h h2 hs hs2
  obtain ⟨n, hn⟩ : ∃ n, n = L.length := ⟨_, rfl⟩
  have HL := Lib.hid hn
  obtain ⟨m, hm⟩ : ∃ m, m = M.length := ⟨_, rfl⟩
  have HM := Lib.hid hm
  rw [← hn] at c0 hlen
  rw [← hm] at k0 hlen2
  clear hn hm
  go_enter Try.func21, Try.ntmps21
  repeat (first | go_step3 | go_values | go_skip | go_guarded | go_step | go_upon)
  (go_at_call 23; refine HT.out.mono ?_; rintro e w1 ⟨rfl, rfl⟩; dsimp only)
  repeat (first | go_step3 | go_values | go_skip | go_guarded | go_step | go_upon)
  (go_at_call 23; refine HT2.out.mono ?_; rintro e w1 ⟨rfl, rfl⟩; dsimp only)
  repeat (first | go_step3 | go_values | go_skip | go_guarded | go_step | go_upon)
  by_cases hnm : n = m
  case neg =>
    have hni : ((n : Int) != (m : Int)) = true := by rw [bne_iff_ne]; omega
    have HNE : Hid (L.map (·.b) ≠ M.map (·.b)) := Lib.hid (fun e => hnm (by rw [HL.out, HM.out]; simpa using congrArg List.length e))
    refine wp_region_tw (by kernel_rfl) (by kernel_rfl) ?_
    have q0 := TW.cell c0
    have q1 := TW.cell k0
    clear hnm
    repeat (go_big_quiet_step (fail))
    refine wpQuiet_nil ?_
    rintro _ ⟨X, rfl⟩
    repeat (first | go_step3 | go_values | go_skip | go_guarded | go_step | go_upon)
    go_ret
    exact .inr ⟨HNE.out, rfl, X.t.below (Nat.le_refl _) (by simp)⟩
  case pos =>
  subst hnm
  have hni : ((n : Int) != (n : Int)) = false := by simp
  refine wp_region_tw (by kernel_rfl) (by kernel_rfl) ?_
  have q0 := TW.cell c0
  have q1 := TW.cell k0
  repeat (go_big_quiet_step (fail))
  refine wpQuiet_nil ?_
  rintro _ ⟨X, rfl⟩
  have HB0 : Hid (Below w1.heap.size w1 X.w) := Lib.hid (X.t.below (Nat.le_refl _) (by simp))
  have x0 := q1 X
  clear q0 q1
  generalize X.w = wr at *
  repeat (first | go_step3 | go_values | go_skip | go_guarded | go_step | go_upon)
  go_loopw [35] (fun i wr => ∃ (k : Nat), i = .int .i64 k ∧ k ≤ n ∧ Hid ((L.take k).map (·.b) = (M.take k).map (·.b)) ∧ Hid (Below w1.heap.size w1 wr)) (fun i _ => n - (intOf i).toNat)
  case atStart => exact ⟨0, rfl, Nat.zero_le _, Lib.hid rfl, HB0⟩
  case round =>
    obtain ⟨k, rfl, hk, HQ, HB⟩ := hrel
    have HGr := Lib.hid (HG.out.below HB.out)
    have HGr2 := Lib.hid (HG2.out.below HB.out)
    by_cases hlt : k < n
    · have hki : (k : Int) < n := by omega
      have hk0 : (0 : Int) ≤ k := by omega
      have hkl : k < L.length := by have := HL.out; omega
      have hkm : k < M.length := by have := HM.out; omega
      obtain ⟨x, hx⟩ : ∃ x, L[k]? = some x := ⟨L[k], List.getElem?_eq_getElem hkl⟩
      obtain ⟨y, hy⟩ : ∃ y, M[k]? = some y := ⟨M[k], List.getElem?_eq_getElem hkm⟩
      obtain ⟨cx, _, _⟩ := HGr.out.at k x hx
      obtain ⟨cb, cc, _⟩ := HGr2.out.at k y hy
      obtain ⟨c0r, _⟩ := HGr.out.cells
      rw [← HL.out] at c0r
      have HLT := Lib.hid hlt
      have HX := Lib.hid hx
      have HY := Lib.hid hy
      obtain ⟨xb, xc⟩ := x
      obtain ⟨yb, yc⟩ := y
      dsimp only at cx cb cc
      have HEQ : Hid (xb = yb → (L.take (k + 1)).map (·.b) = (M.take (k + 1)).map (·.b)) := Lib.hid (fun e => by
        have e1 := HX.out
        have e2 := HY.out
        rw [List.getElem?_eq_getElem hkl] at e1
        rw [List.getElem?_eq_getElem hkm] at e2
        rw [List.take_succ_eq_append_getElem hkl, List.take_succ_eq_append_getElem hkm, List.map_append, List.map_append, HQ.out, Option.some.inj e1, Option.some.inj e2, e]
        rfl)
      have HNE : Hid (xb ≠ yb → L.map (·.b) ≠ M.map (·.b)) := Lib.hid (fun e h => by
        have e1 := congrArg (fun q => q[k]?) h
        simp only [List.getElem?_map, HX.out, HY.out, Option.map_some] at e1
        exact e (Option.some.inj e1))
      clear hx hy hkl hkm
      repeat ((fail_if_success (with_reducible refine gate_dst (N := 17) rfl ?_)); first | ((with_reducible refine gate_dst (N := 6) rfl ?_); refine box_event ?hg (N := 6) ?hd (cs := #[.int .i64 0, .int .i64 0]) (t := 50) ?hr ?_; (case hd => rfl); (case hg => rfl); (case hr => first | (go_simp; done) | (go_simp; rfl)); intro gb hgb w4 hbox hb; have HB4 := Lib.hid (HB.out.trans (hb.mono HB.out.size)); have BK4 := Lib.hid hbox; have GE : Hid (w1.heap.size ≤ gb) := Lib.hid (by rw [hgb]; exact HB.out.size); have GN : Hid (wr.heap.size = gb) := Lib.hid hgb.symm; have HE4 := Lib.hid hb; clear hb hbox hgb; have hcz0 : w4.cell? ⟨gb, 0, none⟩ = some (.int .i64 0) := (cell_of BK4.out 0).trans rfl; have hcz1 : w4.cell? ⟨gb, 1, none⟩ = some (.int .i64 0) := (cell_of BK4.out 1).trans rfl; have hf0 := frozen_of BK4.out 0; have hf1 := frozen_of BK4.out 1) | go_step3 | go_values | go_skip | go_guarded | go_step | go_upon)
      (have BK5 := Lib.hid (mk2 BK4.out (.int .i64 yb) (.int .i64 yc)); have HB5 := Lib.hid ((HB4.out.setCell (p := ⟨gb, 0, none⟩) GE.out (.int .i64 yb)).setCell (p := ⟨gb, 1, none⟩) GE.out (.int .i64 yc)); generalize ((w4.setCell ⟨gb, 0, none⟩ (.int .i64 yb)).setCell ⟨gb, 1, none⟩ (.int .i64 yc)) = w5 at *; have e0 : w5.cell? ⟨gb, 0, none⟩ = some (.int .i64 yb) := (cell_of BK5.out 0).trans rfl; have e1 : w5.cell? ⟨gb, 1, none⟩ = some (.int .i64 yc) := (cell_of BK5.out 1).trans rfl)
      have a0 : w5.cell? ⟨p, 0, none⟩ = some (.slice (some ⟨b, 0, none⟩) n cp) := by have := ((HG.out.below HB5.out).cells).1; rw [← HL.out] at this; exact this
      have a1 : w5.cell? ⟨b, k * 2, none⟩ = some (.int .i64 xb) := ((HG.out.below HB5.out).at k _ HX.out).1
      clear cx cb cc c0r
      by_cases hxy : xb = yb
      · have hxi : (xb != yb) = false := by rw [hxy]; simp
        have HE2 := Lib.hid (HEQ.out hxy)
        clear hxy
        repeat (first | go_step3 | go_values | go_skip | go_guarded | go_step | go_upon)
        refine wp_region_tw (by kernel_rfl) (by kernel_rfl) ?_
        have q0 := TW.cell a0
        have q1 := TW.cell a1
        have q2 := TW.cell e0
        repeat (go_big_quiet_step (fail))
        refine wpQuiet_nil ?_
        rintro _ ⟨Y, rfl⟩
        have HB6 : Hid (Below w1.heap.size w1 Y.w) := Lib.hid (HB5.out.trans (Y.t.below HB5.out.size (by simp)))
        clear q0 q1 q2
        generalize Y.w = w7 at *
        repeat (first | go_step3 | go_values | go_skip | go_guarded | go_step | go_upon)
        try go_roundw
        case rel => exact ⟨k + 1, by go_num, HLT.out, HE2, HB6⟩
        case measure => have := HLT.out; simp [intOf]; omega
      · have hxi : (xb != yb) = true := by rw [bne_iff_ne]; exact hxy
        have HE2 := Lib.hid (HNE.out hxy)
        clear hxy
        repeat (first | go_step3 | go_values | go_skip | go_guarded | go_step | go_upon)
        refine wp_region_tw (by kernel_rfl) (by kernel_rfl) ?_
        have q0 := TW.cell a0
        have q1 := TW.cell a1
        have q2 := TW.cell e0
        repeat (go_big_quiet_step (fail))
        refine wpQuiet_nil ?_
        rintro _ ⟨Y, rfl⟩
        have HB6 : Hid (Below w1.heap.size w1 Y.w) := Lib.hid (HB5.out.trans (Y.t.below HB5.out.size (by simp)))
        clear q0 q1 q2
        generalize Y.w = w7 at *
        repeat (first | go_step3 | go_values | go_skip | go_guarded | go_step | go_upon)
        go_ret
        exact .inr ⟨HE2.out, rfl, HB6.out⟩
    · have hge : ¬ (k : Int) < n := by omega
      have HE : Hid (L.map (·.b) = M.map (·.b)) := Lib.hid (by
        have := HQ.out
        rw [List.take_of_length_le (by have := HL.out; omega), List.take_of_length_le (by have := HM.out; omega)] at this
        exact this)
      clear hlt
      obtain ⟨l0, l1, l2, _⟩ := HGr2.out.cells
      repeat (first | go_step3 | go_values | go_skip | go_guarded | go_step | go_upon)
      refine wp_region_tw (by kernel_rfl) (by kernel_rfl) ?_
      have q1 := TW.cell l1
      have q2 := TW.cell l2
      repeat (go_big_quiet_step (fail))
      refine wpQuiet_nil ?_
      rintro _ ⟨Y, rfl⟩
      have HB6 : Hid (Below w1.heap.size w1 Y.w) := Lib.hid (HB.out.trans (Y.t.below HB.out.size (by simp)))
      clear q1 q2 l0 l1 l2
      generalize Y.w = w7 at *
      have HG7 := Lib.hid (HG.out.below HB6.out)
      have HC := Lib.hid (copy_any (HG2.out.below HB6.out))
      repeat (first | go_step3 | go_values | go_skip | go_guarded | go_step | go_upon)
      (go_at_call 20; refine HC.out.mono ?_; rintro e w8 ⟨p3, b3, cp3, rfl, hG3, hp3, hb3, hB8⟩; have HG3 := Lib.hid hG3; have HP3 := Lib.hid (And.intro hp3 hb3); have HB8 := Lib.hid (HB6.out.trans (hB8.mono HB6.out.size)); have HS8 : Hid (w1.heap.size ≤ w7.heap.size) := Lib.hid HB6.out.size; clear hG3 hp3 hb3 hB8; dsimp only)
      have c3 : w8.cell? ⟨p3, 0, none⟩ = some (.slice (some ⟨b3, 0, none⟩) n cp3) := by have := HG3.out.cells.1; rw [← HM.out] at this; exact this
      repeat (first | go_step3 | go_values | go_skip | go_guarded | go_step | go_upon)
      have HLM : Hid (L.length = M.length) := Lib.hid (by rw [← HL.out, HM.out])
      go_loopw [66] (fun i wr => ∃ (k : Nat), i = .int .i64 k ∧ k ≤ n ∧ Hid (GA wr p b cp (mergeK L M k) t s) ∧ Hid (GA wr p3 b3 cp3 M t2 s2) ∧ Hid (Touch [p, b] w1 wr)) (fun i _ => n - (intOf i).toNat)
      case atStart => exact ⟨0, rfl, Nat.zero_le _, Lib.hid (HG.out.below HB8.out), HG3, Lib.hid ((Touch.of_below HB8.out).mono (by simp))⟩
      case round =>
        obtain ⟨k, rfl, hk, HA, HA3, HT⟩ := hrel
        by_cases hlt : k < n
        · have hki : (k : Int) < n := by omega
          have hk0 : (0 : Int) ≤ k := by omega
          have hkl : k < L.length := by have := HL.out; omega
          have hkm : k < M.length := by have := HM.out; omega
          obtain ⟨x, hx⟩ : ∃ x, L[k]? = some x := ⟨L[k], List.getElem?_eq_getElem hkl⟩
          obtain ⟨y, hy⟩ : ∃ y, M[k]? = some y := ⟨M[k], List.getElem?_eq_getElem hkm⟩
          obtain ⟨cb, cc, _⟩ := HA3.out.at k y hy
          have HLT := Lib.hid hlt
          have HX := Lib.hid hx
          have HY := Lib.hid hy
          have HPUT := Lib.hid (mergeK_put L M HLM.out k x y hx hy)
          have HAT := Lib.hid ((mergeK_at L M HLM.out k hkl).trans hx)
          have hbx := HS.out.c x (List.mem_of_getElem? hx)
          have hby := HS2.out.c y (List.mem_of_getElem? hy)
          have HKL : Hid (k < (mergeK L M k).length) := Lib.hid (List.getElem?_eq_some_iff.1 HAT.out).1
          obtain ⟨xb, xc⟩ := x
          obtain ⟨yb, yc⟩ := y
          dsimp only at cb cc hbx hby HPUT
          have r1 : -9223372036854775808 ≤ xc + yc := by omega
          have r2 : xc + yc ≤ 9223372036854775807 := by omega
          clear hx hy hkl hkm hbx hby
          repeat ((fail_if_success (with_reducible refine wp_region_tw (by kernel_rfl) (by kernel_rfl) ?_)); first | ((with_reducible refine gate_dst (N := 10) rfl ?_); refine box_event ?hg (N := 10) ?hd (cs := #[.int .i64 0, .int .i64 0]) (t := 50) ?hr ?_; (case hd => rfl); (case hg => rfl); (case hr => first | (go_simp; done) | (go_simp; rfl)); intro gb hgb w4 hbox hb; have HT4 := Lib.hid (HT.out.trans (Touch.of_below hb) (by simp)); have BK4 := Lib.hid hbox; have GE : Hid (w1.heap.size ≤ gb) := Lib.hid (by rw [hgb]; exact HT.out.size); have G4 := Lib.hid (HA.out.below hb); have G34 := Lib.hid (HA3.out.below hb); have GN : Hid (wr.heap.size = gb) := Lib.hid hgb.symm; have HE4 := Lib.hid hb; clear hb hbox hgb; have hcz0 : w4.cell? ⟨gb, 0, none⟩ = some (.int .i64 0) := (cell_of BK4.out 0).trans rfl; have hcz1 : w4.cell? ⟨gb, 1, none⟩ = some (.int .i64 0) := (cell_of BK4.out 1).trans rfl; have hf0 := frozen_of BK4.out 0; have hf1 := frozen_of BK4.out 1) | go_step3 | go_values | go_skip | go_guarded | go_step | go_upon)
          have BK5 := Lib.hid (mk2 BK4.out (.int .i64 yb) (.int .i64 yc))
          have t5 : Touch [gb] w4 ((w4.setCell ⟨gb, 0, none⟩ (.int .i64 yb)).setCell ⟨gb, 1, none⟩ (.int .i64 yc)) := ((Touch.refl _ _).setCell _ (.inl (by simp))).setCell _ (.inl (by simp))
          have hlw := HA.out.lt
          have hlw3 := HA3.out.lt
          have hgn := GN.out
          have G5 := Lib.hid (G4.out.kept t5 (by simp; omega) (by simp; omega))
          have G35 := Lib.hid (G34.out.kept t5 (by simp; omega) (by simp; omega))
          have HT5 := Lib.hid (HT4.out.trans t5 (by simp; exact .inr GE.out))
          clear t5 hlw hlw3 hgn cb cc
          generalize ((w4.setCell ⟨gb, 0, none⟩ (.int .i64 yb)).setCell ⟨gb, 1, none⟩ (.int .i64 yc)) = w5 at *
          have z1 : w5.drew.cell? ⟨gb, 1, none⟩ = some (.int .i64 yc) := (cell_of BK5.out 1).trans rfl
          have z0 : w5.drew.cell? ⟨p, 0, none⟩ = some (.slice (some ⟨b, 0, none⟩) n cp) := by
            have := G5.out.cells.1
            have hl : (mergeK L M k).length = n := by
              unfold mergeK
              rw [List.length_append, mergeK_len L M HLM.out k (by have := HL.out; omega), List.length_drop]
              have := HL.out
              omega
            rw [hl] at this
            exact this
          obtain ⟨_, za, zf⟩ := G5.out.at k ⟨xb, xc⟩ HAT.out
          have z2 : w5.drew.cell? ⟨b, k * 2 + 1, none⟩ = some (.int .i64 xc) := za
          have z3 : w5.drew.frozen? ⟨b, k * 2 + 1, none⟩ = false := zf
          have GP : Hid (GA (w5.drew.setCell ⟨b, k * 2 + 1, none⟩ (.int .i64 (xc + yc))) p b cp (mergeK L M (k + 1)) t s ∧ GA (w5.drew.setCell ⟨b, k * 2 + 1, none⟩ (.int .i64 (xc + yc))) p3 b3 cp3 M t2 s2 ∧ Touch [p, b] w1 (w5.drew.setCell ⟨b, k * 2 + 1, none⟩ (.int .i64 (xc + yc)))) := Lib.hid (by
            have gd := G5.out.kept (Touch.refl [] w5).drew (by simp) (by simp)
            have g3d := G35.out.kept (Touch.refl [] w5).drew (by simp) (by simp)
            have g6 := gd.setC k HKL.out (xc + yc)
            rw [HPUT.out] at g6
            have hb1 := HG.out.lt.2
            have hb2 := HP3.out
            have hs8 := HS8.out
            exact ⟨g6, g3d.kept ((Touch.refl [b] _).setCell _ (.inl (by simp))) (by simp; omega) (by simp; omega), (HT5.out.drew).setCell _ (.inl (by simp))⟩)
          clear za zf
          have hwr : IntKind.i64.wrap (xc + yc) = xc + yc := by
            unfold IntKind.wrap
            simp only [show IntKind.i64.bits = 64 from rfl, show IntKind.i64.signed = true from rfl, Bool.true_and]
            show (if decide ((xc + yc) % 18446744073709551616 ≥ 9223372036854775808) = true then (xc + yc) % 18446744073709551616 - 18446744073709551616 else (xc + yc) % 18446744073709551616) = xc + yc
            by_cases hc : (xc + yc) % 18446744073709551616 ≥ 9223372036854775808
            · rw [if_pos (by simpa using hc)]; omega
            · rw [if_neg (by simpa using hc)]; omega
          go_region_law (fail)
          all_goals
            try simp only [hwr]
            repeat (first | go_step3 | go_values | go_skip | go_guarded | go_step | go_upon)
            try go_roundw
            case rel => exact ⟨k + 1, by go_num, HLT.out, Lib.hid GP.out.1, Lib.hid GP.out.2.1, Lib.hid GP.out.2.2⟩
            case measure => have := HLT.out; simp [intOf]; omega
        · have hge : ¬ (k : Int) < n := by omega
          have HK : Hid (mergeK L M k = mergeL L M) := Lib.hid (mergeK_all L M k (by have := HL.out; omega) (by have := HM.out; omega))
          have HA2 := HA.out
          rw [HK.out] at HA2
          have G1 := HA2.setT (t + t2)
          have G2 := Lib.hid (G1.setS (mn (s + s2) cutI))
          obtain ⟨_, d1, _, _, f1, _⟩ := HA2.cells
          obtain ⟨_, _, d2, _, _, f2⟩ := G1.cells
          have r1 : -9223372036854775808 ≤ t + t2 := by have := HS.out.t; have := HS2.out.t; omega
          have r2 : t + t2 ≤ 9223372036854775807 := by have := HS.out.t; have := HS2.out.t; omega
          have r3 : -9223372036854775808 ≤ s + s2 := by have := HS.out.s; have := HS2.out.s; omega
          have r4 : s + s2 ≤ 9223372036854775807 := by have := HS.out.s; have := HS2.out.s; omega
          clear hlt HA2 G1
          repeat (first | go_step3 | go_values | go_skip | go_guarded | go_step | go_upon)
          go_ret
          exact .inl ⟨HE.out, rfl, G2.out, (HT.out.setCell _ (.inl (by simp))).setCell _ (.inl (by simp))⟩
end
end Go.Proofs.Ytmgcmheiabmajaa
