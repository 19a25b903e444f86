/- A book: Has, Forget; two rows of texts. -/
import Derived.Test.YtjmgookpmngmaadPr7
namespace Go.Proofs.Ytjmgookpmngmaad
open Go Go.RowKit Go.Maps

theorem strs_row {w : World} {base N cp : Nat} {A : Option Addr} {l : List ByteArray} (h : w.ownsRow base 9 1 (.slice A N cp) N (strsV l)) : RowG strC 1 w A N l := by
  refine RowG.of_own (enc := strC) (k := 1) (fun _ => rfl) (by decide) (base := base) (e := 9) (cp := cp) ?_
  have e : l.flatMap strC = strsV l := by
    unfold strsV
    induction l with
    | nil => rfl
    | cons x l ih =>
      have h' : ∀ l : List ByteArray, l.flatMap strC = l.map strV := fun l => by
        induction l with
        | nil => rfl
        | cons y l ih => rw [List.flatMap_cons, ih]; rfl
      exact h' _
  rw [e]; exact h
section
variable {w w' : World} {own own' : Own} {pb bc bn bk n : Nat} {M : BM} {cl : List (Int × ClT)} {cn : List (Int × CnT)}
set_option maxHeartbeats 1000000 in
theorem Has_any (h : BkE w own pb M n) (hn : n < 1000000) {id : Int} (hid : goodI id) :
    Calls Try.prog 12 #[.pointer (some ⟨pb, 0, none⟩), .int .i64 id] w fun e w' => ∃ A c, e = .returned (.slice A (M.order id).length c) ∧ w'.ownsRow w.heap.size 9 1 (.slice A (M.order id).length c) (M.order id).length (strsV (M.order id)) ∧ Touch [] w w' := by
  obtain ⟨bc, bn, bk, cl, cn, h⟩ := h
  have c2 := h.b.c2
  have hmk := h.b.mcon
  have H := Lib.hid h
  cases hm : mget cn id with
  | none =>
    have hord : M.order id = [] := by rw [← h.order]; unfold orderOf; rw [hm]
    have l3 := hmk.look_miss encI Try.underlying49 (zeroP w) hid (by rw [mget_mapK, hm]; rfl) false
    simp only [Bool.false_eq_true, if_false, intV] at l3
    rw [hord]
    clear h hm hord hmk
    go_enter Try.func12, Try.ntmps12
    go_wp2_with fail
    refine (there_any H.out.b).mono ?_
    rintro e w1 ⟨rfl, rfl⟩
    go_wp2
    go_ret
    exact ⟨none, 0, rfl, World.ownsRow_nil _ _ _ _, Touch.refl _ _⟩
  | some t =>
    have hord : M.order id = t.order := by rw [← h.order]; unfold orderOf; rw [hm]
    have l3 := hmk.look_hit encI Try.underlying49 hid (v := .pointer (some ⟨t.pc, 0, none⟩)) (by rw [mget_mapK, hm]; rfl) false
    simp only [Bool.false_eq_true, if_false, intV] at l3
    have ht := h.b.cns _ (mget_mem hm)
    have p1 : w.cell? ⟨t.pc, 1, none⟩ = some t.row := by rw [cell_of ht.cells]; rfl
    have h5 : t.order.length ≤ n := h.s5 _ (mget_mem hm)
    rw [hord]
    have hsrc : Hid (Src w t.A t.order.length 1 (strsV t.order)) := Lib.hid (Src.own (cp := t.cp) ht.rowo)
    unfold CnT.row at p1
    obtain ⟨j0, hj0, hjz, hj1, hj2⟩ := info_parts infoS
    have hnil : Hid (w.ownsRow w.heap.size 9 1 (.slice none 0 0) 0 []) := Lib.hid (World.ownsRow_nil _ _ _ _)
    clear h hm hord hmk ht
    go_enter Try.func12, Try.ntmps12
    go_wp2_with fail
    refine (there_any H.out.b).mono ?_
    rintro e w1 ⟨rfl, rfl⟩
    go_wp2_with (at_builtin; go_must (refine wpList_append_src _ rfl _ _ 22 rfl w.heap.size 9 j0 (.string ⟨#[]⟩) 1 16 Try.underlying22 hj0 hjz hj1 hj2 rfl (by decide) (.slice none 0 0) 0 [] rfl hnil.out t.A t.order.length t.cp (strsV t.order) rfl hsrc.out (by simp [strsV, strV, Value.oneCell']) (by simp [maxLen]; omega) (by omega) (Nat.le_refl _) ?_); go_must (intro v5 w5 hown5 hg5 hloc5; obtain ⟨B5, c5, rfl⟩ := own_slice2 hown5))
    have T5 : Touch [] w w5 := (Touch.refl _ _).grownBy hg5 (fun k hk => by simp [Value.ownBlock] at hk)
    have HF : Hid (w5.ownsRow w.heap.size 9 1 (.slice B5 (0 + t.order.length) c5) (0 + t.order.length) (strsV t.order) ∧ Touch [] w w5) := Lib.hid ⟨by simpa using hown5, T5⟩
    rw [Nat.zero_add] at HF
    clear hown5 hg5 hloc5 T5
    go_wp2
    go_ret
    exact ⟨B5, c5, rfl, HF.out.1, HF.out.2⟩
set_option maxHeartbeats 1000000 in
theorem Forget_any (h : BkE w own pb M n) (hn : n < 1000000) {id : Int} (hid : goodI id) :
    Calls Try.prog 11 #[.pointer (some ⟨pb, 0, none⟩), .int .i64 id] w fun e w' => e = .returned (.int .i64 (M.order id).length) ∧ BkE w' own pb (M.forget id) n ∧ Grow own own w w' := by
  have HH := Lib.hid (Has_any h hn hid)
  obtain ⟨bc, bn, bk, cl, cn, h⟩ := h
  have H := Lib.hid h
  clear h
  go_enter Try.func11, Try.ntmps11
  go_wp2_with fail
  refine HH.out.mono ?_
  rintro e w1 ⟨A, c, rfl, o1, t1⟩
  have hb1 := H.out.b.kept0 t1
  have c2 := hb1.c2
  have hmk := hb1.mcon
  have HB := Lib.hid (And.intro hb1 t1)
  clear o1 t1 hb1
  go_wp2_with fail
  refine (there_any HB.out.1).mono ?_
  rintro e w2 ⟨rfl, rfl⟩
  go_wp2_with (at_delete; go_must (refine wpList_mt_delete _ rfl _ _ 49 53 rfl encI Try.underlying49 hmk hid rfl rfl ?_); intro w3 hM3 t3)
  have hF : BkE w3 own pb (M.forget id) n ∧ Grow own own w w3 := by
    refine ⟨⟨bc, bn, bk, _, _, HB.out.1.delCn hM3 t3, H.out.mine, ?_, H.out.s1, ?_, H.out.s3, H.out.s4, fun r hr => H.out.s5 r (List.mem_filter.1 hr).1, H.out.s6⟩, (Grow.of_touch0 HB.out.2).trans (Grow.of_touch t3 (fun i hi => .inl ?_) fun _ _ h => h)⟩
    · rw [orderOf_del, H.out.order]; rfl
    · exact Nat.le_trans (List.length_filter_le _ _) H.out.s2
    · simp only [List.mem_cons, List.not_mem_nil, or_false] at hi
      subst hi
      rw [H.out.b.o3]; simp
  have HF := Lib.hid hF
  clear hF hM3 t3 hmk c2
  go_wp2
  go_ret
  exact ⟨rfl, HF.out.1, HF.out.2⟩
end
end Go.Proofs.Ytjmgookpmngmaad
