/- A book: New, Close, Leave. -/
import Derived.Test.YtjmgookpmngmaadPr4
namespace Go.Proofs.Ytjmgookpmngmaad
open Go Go.RowKit Go.Maps

def BM.zero : BM := ⟨fun _ => [], [], fun _ => []⟩
def BM.del (M : BM) (c : Int) (s : ByteArray) : BM := { M with mine := upd M.mine c (mdel (M.mine c) s) }
def BM.gone (M : BM) (c : Int) : BM := { M with mine := upd M.mine c [] }
section
variable {w w' : World} {own own' : Own} {pb bc bn bk n : Nat} {M : BM} {cl : List (Int × ClT)} {cn : List (Int × CnT)}
theorem Close_no (h : BkE w own pb M n) {c : Int} (hc : goodI c) {s : ByteArray} (hs : goodS s) (hm : mget (M.mine c) s = none) :
    Calls Try.prog 14 #[.pointer (some ⟨pb, 0, none⟩), .int .i64 c, .string s] w fun e w' => e = .returned (.bool false) ∧ w = w' := by
  have H := Lib.hid (Find_no h hc hs hm)
  clear hm h
  go_enter Try.func14, Try.ntmps14
  go_wp2_with fail
  refine H.out.mono ?_
  rintro e w1 ⟨rfl, rfl⟩
  go_wp2
  go_ret
  exact ⟨rfl, rfl⟩
set_option maxHeartbeats 1000000 in
theorem Close_yes (h : BkE w own pb M n) {c : Int} (hc : goodI c) {s x : ByteArray} (hs : goodS s) (hm : mget (M.mine c) s = some x) :
    Calls Try.prog 14 #[.pointer (some ⟨pb, 0, none⟩), .int .i64 c, .string s] w fun e w' => e = .returned (.bool true) ∧ BkE w' own pb (M.del c s) n ∧ Grow own own w w' := by
  have HF := Lib.hid (Find_yes h hc hs hm)
  obtain ⟨bc, bn, bk, cl, cn, h⟩ := h
  have c0 := h.b.c0
  obtain ⟨v, l1, _, hv⟩ := look2 h.b hc hs
  have H := Lib.hid h
  rcases hv with ⟨hm0, rfl⟩ | ⟨t, hm0, rfl⟩
  · rw [← h.mine] at hm; unfold mineOf at hm; rw [hm0] at hm; simp [mget] at hm
  · have ht := (h.b.cls _ (mget_mem hm0)).map
    have hmine : M.mine c = t.l := by rw [← h.mine]; unfold mineOf; rw [hm0]
    have HM := Lib.hid (And.intro hm0 hmine)
    clear h hm0 hm hmine
    go_enter Try.func14, Try.ntmps14
    go_wp2_with fail
    refine HF.out.mono ?_
    rintro e w1 ⟨rfl, rfl⟩
    go_wp2_with (at_delete; go_must (refine wpList_mt_delete _ rfl _ _ 48 9 rfl encS Try.underlying48 ht hs rfl rfl ?_); intro w2 hM2 t2)
    have hF : BkE w2 own pb (M.del c s) n ∧ Grow own own w w2 := by
      have hb := H.out.b.putCl HM.out.1 (l' := mdel t.l s) (hM2.of_eq (mdel_map strV t.l s)) t2
      refine ⟨⟨bc, bn, bk, _, cn, hb, ?_, H.out.order, ?_, H.out.s2, H.out.s3, fun r hr => ?_, H.out.s5, H.out.s6⟩, Grow.of_touch t2 (fun i hi => .inl ?_) fun _ _ h => h⟩
      · rw [mineOf_put, H.out.mine]
        show _ = upd M.mine c (mdel (M.mine c) s)
        rw [HM.out.2]
      · rw [mput_len_same HM.out.1]; exact H.out.s1
      · rcases mput_mem3 H.out.b.clN hr with rfl | ⟨hr', _⟩
        · exact Nat.le_trans (List.length_filter_le _ _) (H.out.s4 _ (mget_mem HM.out.1))
        · exact H.out.s4 r hr'
      · simp only [List.mem_cons, List.not_mem_nil, or_false] at hi
        subst hi
        rw [(H.out.b.cls _ (mget_mem HM.out.1)).own]; simp
    have HF := Lib.hid hF
    clear hF hM2 t2
    go_wp2
    go_ret
    exact ⟨rfl, HF.out.1, HF.out.2⟩
open Go.MapKept Go.ChangeMaps in
theorem len_nil (w : World) (ty : TypeId) : (Builtin.len_ #[48] ty #[.map none]).run Try.prog w = .ok (.int .i64 0) w := by
  simp [Builtin.len_, run_underlying Try.underlying48, goInt, Result.andThen]
set_option maxHeartbeats 1000000 in
theorem Leave_any (h : BkE w own pb M n) {c : Int} (hc : goodI c) :
    Calls Try.prog 15 #[.pointer (some ⟨pb, 0, none⟩), .int .i64 c] w fun e w' => e = .returned (.int .i64 (M.mine c).length) ∧ BkE w' own pb (M.gone c) n ∧ Grow own own w w' := by
  obtain ⟨bc, bn, bk, cl, cn, h⟩ := h
  have c0 := h.b.c0
  obtain ⟨v, l1, _, hv⟩ := look2 h.b hc (s := ⟨#[]⟩) (Nat.zero_le _)
  have hmc := h.b.mc
  have hlen : ∀ ty : TypeId, (Builtin.len_ #[48] ty #[v]).run Try.prog w = .ok (.int .i64 (M.mine c).length) w := fun ty => by
    rw [← h.mine]
    unfold mineOf
    rcases hv with ⟨hm0, rfl⟩ | ⟨t, hm0, rfl⟩
    · rw [hm0]; exact len_nil w ty
    · rw [hm0]
      have := (h.b.cls _ (mget_mem hm0)).map.len Try.underlying48 ty
      simpa [mapS] using this
  have hF : ∀ w2, MapT w2 bc intV goodI (mdel (mapC cl) c) → Touch [bc] w w2 → BkE w2 own pb (M.gone c) n ∧ Grow own own w w2 := fun w2 hM2 t2 => by
    refine ⟨⟨bc, bn, bk, _, cn, h.b.delCl hM2 t2, ?_, h.order, ?_, h.s2, h.s3, fun r hr => h.s4 r (List.mem_filter.1 hr).1, h.s5, h.s6⟩, Grow.of_touch t2 (fun i hi => .inl ?_) fun _ _ h => h⟩
    · rw [mineOf_del, h.mine]; rfl
    · exact Nat.le_trans (List.length_filter_le _ _) h.s1
    · simp only [List.mem_cons, List.not_mem_nil, or_false] at hi
      subst hi
      rw [h.b.o1]; simp
  have HF := Lib.hid hF
  have H := Lib.hid h
  clear h hF hv
  generalize (M.mine c).length = N at *
  go_enter Try.func15, Try.ntmps15
  go_wp2_with fail
  refine (there_any H.out.b).mono ?_
  rintro e w1 ⟨rfl, rfl⟩
  go_wp2_with (at_delete; go_must (refine wpList_mt_delete _ rfl _ _ 47 48 rfl encI Try.underlying47 hmc hc rfl rfl ?_); intro w2 hM2 t2)
  have HG := Lib.hid (HF.out w2 hM2 t2)
  clear hM2 t2
  go_wp2
  go_ret
  exact ⟨rfl, HG.out.1, HG.out.2⟩
theorem New_any (w : World) : Calls Try.prog 8 #[] w fun e w' => ∃ pb, e = .returned (.pointer (some ⟨pb, 0, none⟩)) ∧ ∃ own, BkE w' own pb BM.zero 0 ∧ (∀ i t, own i = some t → w.heap.size ≤ i) ∧ Touch [] w w' := by
  have hmm := @run_makeMap Try.prog
  go_enter Try.func8, Try.ntmps8
  go_wp2
  go_ret
  have t1 : Touch [] w (w.alloc (.map #[] 0)) := (Touch.refl _ _).alloc _
  have t2 : Touch [] (w.alloc (.map #[] 0)) ((w.alloc (.map #[] 0)).alloc (.map #[] 0)) := (Touch.refl _ _).alloc _
  have t3 : Touch [] ((w.alloc (.map #[] 0)).alloc (.map #[] 0)) (((w.alloc (.map #[] 0)).alloc (.map #[] 0)).alloc (.map #[] 0)) := (Touch.refl _ _).alloc _
  have t4 : Touch [] (((w.alloc (.map #[] 0)).alloc (.map #[] 0)).alloc (.map #[] 0)) ((((w.alloc (.map #[] 0)).alloc (.map #[] 0)).alloc (.map #[] 0)).alloc (.cells #[.map (some w.heap.size), .map (some (w.heap.size + 1)), .map (some (w.heap.size + 1 + 1))] 51)) := (Touch.refl _ _).alloc _
  have m1 := MapT.made (enc := intV) (good := goodI) w
  have m2 := MapT.made (enc := strV) (good := goodS) (w.alloc (.map #[] 0))
  have m3 := MapT.made (enc := intV) (good := goodI) ((w.alloc (.map #[] 0)).alloc (.map #[] 0))
  have b4 := heap_alloc_new (((w.alloc (.map #[] 0)).alloc (.map #[] 0)).alloc (.map #[] 0)) (.cells #[.map (some w.heap.size), .map (some (w.heap.size + 1)), .map (some (w.heap.size + 1 + 1))] 51)
  have s1 : (w.alloc (.map #[] 0)).heap.size = w.heap.size + 1 := by simp
  have s2 : ((w.alloc (.map #[] 0)).alloc (.map #[] 0)).heap.size = w.heap.size + 1 + 1 := by simp
  have s3 : (((w.alloc (.map #[] 0)).alloc (.map #[] 0)).alloc (.map #[] 0)).heap.size = w.heap.size + 1 + 1 + 1 := by simp
  rw [s1] at m2
  rw [s2] at m3
  rw [s3] at b4
  have q1 := ((m1.of_block (t2.block _ m1.lt (by simp))).of_block (t3.block _ (by have := m1.lt; omega) (by simp))).of_block (t4.block _ (by have := m1.lt; omega) (by simp))
  have q2 := (m2.of_block (t3.block _ m2.lt (by simp))).of_block (t4.block _ (by have := m2.lt; omega) (by simp))
  have q3 := m3.of_block (t4.block _ m3.lt (by simp))
  refine ⟨_, rfl, addO (addO (addO (addO (fun _ => none) w.heap.size (.book 1)) (w.heap.size + 1) (.book 2)) (w.heap.size + 1 + 1) (.book 3)) (w.heap.size + 1 + 1 + 1) (.book 0), ⟨w.heap.size, w.heap.size + 1, w.heap.size + 1 + 1, [], [], ⟨b4, by unfold addO; rw [if_pos rfl], by unfold addO; rw [if_neg (by omega), if_neg (by omega), if_neg (by omega), if_pos rfl], by unfold addO; rw [if_neg (by omega), if_neg (by omega), if_pos rfl], by unfold addO; rw [if_neg (by omega), if_pos rfl], q1, q2, q3, by simp, by simp, fun i t hi => ?_⟩, rfl, rfl, Nat.zero_le _, Nat.zero_le _, Nat.zero_le _, by simp, by simp, by simp [BM.zero]⟩, fun i t hi => ?_, ((t1.trans t2 (by simp)).trans t3 (by simp)).trans t4 (by simp)⟩
  · have := heap_lt b4
    unfold addO at hi
    repeat' split at hi
    all_goals first | omega | cases hi
  · unfold addO at hi
    repeat' split at hi
    all_goals first | omega | cases hi
end
end Go.Proofs.Ytjmgookpmngmaad
