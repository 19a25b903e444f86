/- A gauge's Counts: a new row of the counts. -/
import Derived.Test.YtmgcmheiabmajaaGa2
import Derived.Test.YtmgcmheiabmajaaWLast
namespace Go.Proofs.Ytmgcmheiabmajaa
open Go Go.RowKit Go.Proofs.YtmgcmheiabmajaaW.PrintWords Go.Proofs.YtmgcmheiabmajaaW.PrintLast

theorem infoI : (Try.prog.info? 3).map (fun i => (i.zero, i.size, i.bytes)) = some (some (.int .i64 0), 1, 8) := by kernel_rfl
def IntsP (w : World) (l : List Int) (e : Ending) (w' : World) : Prop := ∃ v, e = .returned v ∧ Kd.R (Kd.int .i64) 3 w' w.heap.size (fun _ => True) v l ∧ Below w.heap.size w w'
section
variable {w : World} {p b cp : Nat} {L : List SB} {t s : Int}
theorem GA.below (h : GA w p b cp L t s) {w' : World} (k : Below w.heap.size w w') : GA w' p b cp L t s := h.kept (Touch.of_below k) (by simp) (by simp)
theorem mk2 {W : World} {g : Nat} {x y : Value} {ty : TypeId} (h : W.heap[g]? = some (.cells #[x, y] ty (0, 0))) (u v : Value) : ((W.setCell ⟨g, 0, none⟩ u).setCell ⟨g, 1, none⟩ v).heap[g]? = some (.cells #[u, v] ty (0, 0)) :=
  (block_set ((block_set h u).trans rfl) v).trans rfl
set_option maxHeartbeats 2000000 in
theorem counts_any (h : GA w p b cp L t s) : Calls Try.prog 15 #[.pointer (some ⟨p, 0, none⟩)] w (IntsP w (L.map (·.c))) := by
  have hub := Try.underlying50
  have HT := Lib.hid (there_any h)
  have HG := Lib.hid h
  have hlen : L.length ≤ 101 := h.few.2
  obtain ⟨c0, _⟩ := h.cells
  clear h
  obtain ⟨n, hn⟩ : ∃ n, n = L.length := ⟨_, rfl⟩
  have HL := Lib.hid hn
  rw [← hn] at c0 hlen
  clear hn
  go_enter Try.func15, Try.ntmps15
  repeat (first | go_step3 | go_values | go_skip | go_guarded | go_step | go_upon)
  (go_at_call 23; refine HT.out.mono ?_; rintro e w1 ⟨rfl, rfl⟩; dsimp only)
  repeat (first | go_step3 | go_values | go_skip | go_guarded | go_step | go_upon)
  go_loopw [3, 14] (fun v i wr => ∃ k : Nat, i = .int .i64 k ∧ k ≤ n ∧ Hid (Kd.R (Kd.int .i64) 3 wr w1.heap.size (fun _ => True) v ((L.take k).map (·.c))) ∧ Hid (Below w1.heap.size w1 wr)) (fun _ i _ => n - (intOf i).toNat)
  case atStart => exact ⟨0, rfl, Nat.zero_le _, Lib.hid (Kd.R_nil _ _ _ _ _), Lib.hid (Below.refl _ _)⟩
  case round =>
    obtain ⟨k, rfl, hk, HO, HB⟩ := hrel
    have HGr := Lib.hid (HG.out.below HB.out)
    by_cases hlt : k < n
    · have hki : (k : Int) < n := by omega
      have hk0 : (0 : Int) ≤ k := by omega
      have hkn : k < L.length := by have := HL.out; omega
      obtain ⟨y, hy⟩ : ∃ y, L[k]? = some y := ⟨L[k], List.getElem?_eq_getElem hkn⟩
      obtain ⟨cb, cc, _⟩ := HGr.out.at k y hy
      have htk : (L.take (k + 1)).map (·.c) = (L.take k).map (·.c) ++ [y.c] := by
        rw [List.take_succ_eq_append_getElem hkn, List.map_append]
        rw [List.getElem?_eq_getElem hkn] at hy
        cases hy
        rfl
      have HTK := Lib.hid htk
      have HLT := Lib.hid hlt
      have hl100 : ((L.take k).map (·.c)).length ≤ 101 := by rw [List.length_map, List.length_take]; omega
      have HL3 := Lib.hid hl100
      obtain ⟨yb, yc⟩ := y
      dsimp only at cb cc HTK
      clear hy hkn htk hl100
      repeat ((fail_if_success (with_reducible refine gate_dst (N := 18) rfl ?_)); first | ((with_reducible refine gate_dst (N := 5) rfl ?_); refine box_event ?hg (N := 5) ?hd (cs := #[.int .i64 0, .int .i64 0]) (t := 50) ?hr ?_; (case hd => rfl); (case hg => rfl); (case hr => first | (go_simp; done) | (go_simp; rfl)); intro gb hgb w4 hbox hb; have HO4 := Lib.hid (Kd.R_below HO.out hb); have HB4 := Lib.hid (HB.out.trans (hb.mono HB.out.size)); have BK4 := Lib.hid hbox; have GE : Hid (w1.heap.size ≤ gb) := Lib.hid (by rw [hgb]; exact HB.out.size); clear hb hbox hgb; have hcz0 : w4.cell? ⟨gb, 0, none⟩ = some (.int .i64 0) := (cell_of BK4.out 0).trans rfl; have hcz1 : w4.cell? ⟨gb, 1, none⟩ = some (.int .i64 0) := (cell_of BK4.out 1).trans rfl; have hf0 := frozen_of BK4.out 0; have hf1 := frozen_of BK4.out 1) | go_step3 | go_values | go_skip | go_guarded | go_step | go_upon)
      (have BK5 := Lib.hid (mk2 BK4.out (.int .i64 yb) (.int .i64 yc)); have HO5 := Lib.hid (Kd.R_set (Kd.R_set HO4.out BK4.out (by decide) 0 (.int .i64 yb)) ((block_set BK4.out (.int .i64 yb)).trans rfl) (by decide) 1 (.int .i64 yc)); have HB5 := Lib.hid ((HB4.out.setCell (p := ⟨gb, 0, none⟩) GE.out (.int .i64 yb)).setCell (p := ⟨gb, 1, none⟩) GE.out (.int .i64 yc)); generalize ((w4.setCell ⟨gb, 0, none⟩ (.int .i64 yb)).setCell ⟨gb, 1, none⟩ (.int .i64 yc)) = w5 at *; have e0 : w5.cell? ⟨gb, 0, none⟩ = some (.int .i64 yb) := (cell_of BK5.out 0).trans rfl; have e1 : w5.cell? ⟨gb, 1, none⟩ = some (.int .i64 yc) := (cell_of BK5.out 1).trans rfl)
      repeat ((fail_if_success (with_reducible refine gate_dst (N := 22) rfl ?_)); first | go_step3 | go_values | go_skip | go_guarded | go_step | go_upon)
      ((with_reducible refine gate_builtin (b := .append) (xs := #[.tmp 18, .tmp 21]) rfl ?_); at_builtin; refine Kd.R_append (Kd.int .i64) (w0 := w1) w1.heap.size rfl (.tmp 18) (.tmp 21) 22 3 (.int .i64 0) 8 rfl Try.underlying22 infoI rfl (by decide) (by omega) u3 ((L.take k).map (·.c)) yc [.int .i64 yc] (fun _ => True) (fun _ => False) rfl (by first | (go_simp; done) | (go_simp; rfl)) ?aP (fun _ hk => hk.elim) (fun _ _ => trivial) ?aO ?aB ?aS ?aL ?_; (case aP => exact rfl); (case aB => exact HB5.out); (case aO => exact HO5.out); (case aS => exact HB5.out.size); (case aL => exact (by have := HL3.out; omega)); intro v6 w6 ho hb6 hg6 hat6; rw [← HTK.out] at ho; have HO6 := Lib.hid ho; have HB6 := Lib.hid hb6; clear ho hb6 hg6 hat6)
      dsimp only
      repeat (first | go_step3 | go_values | go_skip | go_guarded | go_step | go_upon)
      try go_roundw
      case rel => exact ⟨k + 1, by go_num, HLT.out, HO6, HB6⟩
      case measure => have := HLT.out; simp [intOf]; omega
    · have hge : ¬ (k : Int) < n := by omega
      have HK := Lib.hid (show L.take k = L from List.take_of_length_le (by have := HL.out; omega))
      clear hlt
      repeat (first | go_step3 | go_values | go_skip | go_guarded | go_step | go_upon)
      go_ret
      exact ⟨_, rfl, by have := HO.out; rw [HK.out] at this; exact this, HB.out⟩
end
end Go.Proofs.Ytmgcmheiabmajaa
