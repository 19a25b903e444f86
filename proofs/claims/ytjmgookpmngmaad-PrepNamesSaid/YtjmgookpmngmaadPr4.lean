/- A book: New, Find, Define, Close, Leave. -/
import Derived.Test.YtjmgookpmngmaadPr3
namespace Go.Proofs.Ytjmgookpmngmaad
open Go Go.RowKit Go.Maps

section
variable {w w' : World} {own own' : Own} {pb bc bn bk n : Nat} {M : BM} {cl : List (Int × ClT)} {cn : List (Int × CnT)}
theorem Bk.kept0 (h : Bk w own pb M n bc bn bk cl cn) (t : Touch [] w w') : Bk w' own pb M n bc bn bk cl cn := ⟨h.b.kept0 t, h.mine, h.order, h.s1, h.s2, h.s3, h.s4, h.s5, h.s6⟩
theorem Bk.e (h : Bk w own pb M n bc bn bk cl cn) : BkE w own pb M n := ⟨bc, bn, bk, cl, cn, h⟩
theorem BkE.mono (h : BkE w own pb M n) {m : Nat} (hm : n ≤ m) : BkE w own pb M m := by
  obtain ⟨bc, bn, bk, cl, cn, h⟩ := h
  exact ⟨bc, bn, bk, cl, cn, h.b, h.mine, h.order, by have := h.s1; omega, by have := h.s2; omega, by have := h.s3; omega, fun r hr => by have := h.s4 r hr; omega, fun r hr => by have := h.s5 r hr; omega, h.s6⟩
theorem BkE.kept0 (h : BkE w own pb M n) (t : Touch [] w w') : BkE w' own pb M n := by
  obtain ⟨bc, bn, bk, cl, cn, h⟩ := h
  exact (h.kept0 t).e
theorem BkE.other {o1 o1' : Own} (h : BkE w own pb M n) (g : Grow o1 o1' w w') (dis : ∀ i t, own i = some t → o1 i = none) : BkE w' own pb M n := by
  obtain ⟨bc, bn, bk, cl, cn, h⟩ := h
  exact ⟨bc, bn, bk, cl, cn, h.b.other g dis, h.mine, h.order, h.s1, h.s2, h.s3, h.s4, h.s5, h.s6⟩
theorem BkE.lt (h : BkE w own pb M n) : ∀ i t, own i = some t → i < w.heap.size := by
  obtain ⟨bc, bn, bk, cl, cn, h⟩ := h
  exact h.b.lt

theorem Find_any (h : BkE w own pb M n) {c : Int} (hc : goodI c) {s : ByteArray} (hs : goodS s) :
    Calls Try.prog 16 #[.pointer (some ⟨pb, 0, none⟩), .int .i64 c, .string s] w fun e w' => e = .returned (.tuple (match mget (M.mine c) s with | some x => #[.string x, .bool true] | none => #[.string ⟨#[]⟩, .bool false])) ∧ w = w' := by
  obtain ⟨bc, bn, bk, cl, cn, h⟩ := h
  have c0 := h.b.c0
  obtain ⟨v, l1, l2, _⟩ := look2 h.b hc hs
  rw [h.mine] at l2
  have H := Lib.hid h
  clear h
  cases hm : mget (M.mine c) s with
  | none =>
    simp only [hm] at l2
    have HM := Lib.hid hm
    clear hm
    go_enter Try.func16, Try.ntmps16
    go_wp2_with fail
    refine (there_any H.out.b).mono ?_
    rintro e w1 ⟨rfl, rfl⟩
    go_wp2
    go_ret2
    exact ⟨rfl, rfl⟩
  | some x =>
    simp only [hm] at l2
    have HM := Lib.hid hm
    clear hm
    go_enter Try.func16, Try.ntmps16
    go_wp2_with fail
    refine (there_any H.out.b).mono ?_
    rintro e w1 ⟨rfl, rfl⟩
    go_wp2
    go_ret2
    exact ⟨rfl, rfl⟩
theorem Find_yes (h : BkE w own pb M n) {c : Int} (hc : goodI c) {s x : ByteArray} (hs : goodS s) (hm : mget (M.mine c) s = some x) :
    Calls Try.prog 16 #[.pointer (some ⟨pb, 0, none⟩), .int .i64 c, .string s] w fun e w' => e = .returned (.tuple #[.string x, .bool true]) ∧ w = w' := by
  have := Find_any h hc hs
  simpa only [hm] using this
theorem Find_no (h : BkE w own pb M n) {c : Int} (hc : goodI c) {s : ByteArray} (hs : goodS s) (hm : mget (M.mine c) s = none) :
    Calls Try.prog 16 #[.pointer (some ⟨pb, 0, none⟩), .int .i64 c, .string s] w fun e w' => e = .returned (.tuple #[.string ⟨#[]⟩, .bool false]) ∧ w = w' := by
  have := Find_any h hc hs
  simpa only [hm] using this

theorem isNil {s : ByteArray} (h : s = ⟨#[]⟩) : s.toList = [] := by rw [h, ByteArray.toList_eq]
theorem notNil {s : ByteArray} (h : s ≠ ⟨#[]⟩) : ¬ s.toList = [] ∧ s.toList.isEmpty = false := by
  have : ¬ s.toList = [] := fun hh => h (by
    rw [ByteArray.toList_eq] at hh
    obtain ⟨⟨z⟩⟩ := s
    simpa using hh)
  exact ⟨this, by simpa using this⟩

/-- Too long. -/
theorem Define_big (h : BkE w own pb M n) {c : Int} (hc : goodI c) {s q : ByteArray} (hs : goodS s) (hq : 2000 < q.size) (hq2 : q.size ≤ maxLen) :
    Calls Try.prog 13 #[.pointer (some ⟨pb, 0, none⟩), .int .i64 c, .string s, .string q] w fun e w' => e = .returned (.int .i64 2) ∧ w = w' := by
  obtain ⟨bc, bn, bk, cl, cn, h⟩ := h
  have c0 := h.b.c0
  obtain ⟨v, l1, l2, _⟩ := look2 h.b hc hs
  unfold maxLen at hq2
  have hq3 : (2000 : Int) < (q.size : Int) := by omega
  have H := Lib.hid h
  clear h
  cases hm : mget (mineOf cl c) s
  all_goals
    simp only [hm] at l2
    clear hm
    go_enter Try.func13, Try.ntmps13
    go_wp2_with fail
    refine (there_any H.out.b).mono ?_
    rintro e w1 ⟨rfl, rfl⟩
    go_wp2
    go_ret
    exact ⟨rfl, rfl⟩
/-- There is one. -/
theorem Define_twice (h : BkE w own pb M n) {c : Int} (hc : goodI c) {s q : ByteArray} (hs : goodS s) (hq : q.size ≤ 2000) {x : ByteArray} (hx : mget (M.mine c) s = some x) (hne : s ≠ ⟨#[]⟩) :
    Calls Try.prog 13 #[.pointer (some ⟨pb, 0, none⟩), .int .i64 c, .string s, .string q] w fun e w' => e = .returned (.int .i64 9) ∧ w = w' := by
  obtain ⟨bc, bn, bk, cl, cn, h⟩ := h
  have c0 := h.b.c0
  obtain ⟨v, l1, l2, _⟩ := look2 h.b hc hs
  rw [h.mine] at l2
  have hq3 : ¬ (2000 : Int) < (q.size : Int) := by omega
  obtain ⟨n1, n2⟩ := notNil hne
  have H := Lib.hid h
  clear h hne
  simp only [hx] at l2
  have HX := Lib.hid hx
  clear hx
  go_enter Try.func13, Try.ntmps13
  go_wp2_with fail
  refine (there_any H.out.b).mono ?_
  rintro e w1 ⟨rfl, rfl⟩
  go_wp2
  go_ret
  exact ⟨rfl, rfl⟩
def BM.put (M : BM) (c : Int) (s q : ByteArray) : BM := { M with mine := upd M.mine c (mput (M.mine c) s q) }
set_option maxHeartbeats 1000000 in
theorem Define_ok (h : BkE w own pb M n) (hn : n < 1000000) {c : Int} (hc : goodI c) {s q : ByteArray} (hs : goodS s) (hq : q.size ≤ 2000) (hx : mget (M.mine c) s = none ∨ s = ⟨#[]⟩) :
    Calls Try.prog 13 #[.pointer (some ⟨pb, 0, none⟩), .int .i64 c, .string s, .string q] w fun e w' => e = .returned (.int .i64 0) ∧ ∃ own', BkE w' own' pb (M.put c s q) (n + 1) ∧ Grow own own' w w' := by
  obtain ⟨bc, bn, bk, cl, cn, h⟩ := h
  have c0 := h.b.c0
  obtain ⟨v, l1, l2, hv⟩ := look2 h.b hc hs
  have hq3 : ¬ (2000 : Int) < (q.size : Int) := by omega
  have H := Lib.hid h
  have hmm := @run_makeMap Try.prog
  have hcl := H.out.s1
  rcases hv with ⟨hm, rfl⟩ | ⟨t, hm, rfl⟩
  · have e1 := run_eql_map_nil (P := Try.prog) w 48 9 9 none Try.underlying48
    have hmine : M.mine c = [] := by rw [← h.mine]; unfold mineOf; rw [hm]
    have hmine2 : mineOf cl c = [] := by unfold mineOf; rw [hm]
    rw [hmine2] at l2
    simp only [mget] at l2
    have ta : Touch [] w (w.alloc (.map #[] 0)) := (Touch.refl _ _).alloc _
    have hb1 := h.b.kept0 ta
    have hM1 := MapT.made (enc := strV) (good := goodS) w
    have hbg : bc ≠ w.heap.size := Nat.ne_of_lt h.b.mc.lt
    have hpg : pb ≠ bc := fun e => by have h1 := h.b.o0; have h2 := h.b.o1; rw [e, h2] at h1; cases h1
    have HH := Lib.hid (And.intro hb1 (And.intro hM1 (And.intro hbg (And.intro hmine (And.intro ta hm)))))
    have hmc := hb1.mc
    clear h hm hmine hmine2 hx hb1 hM1 hbg
    go_enter Try.func13, Try.ntmps13
    go_wp2_with fail
    refine (there_any H.out.b).mono ?_
    rintro e w1 ⟨rfl, rfl⟩
    go_upto_region 10 with (at_mapUpdate; go_must (refine wpList_mt_store _ rfl _ _ _ 47 48 rfl encI Try.underlying47 hmc (by simp [mapC, maxLen]; omega) hc rfl rfl (.map (some w.heap.size)) rfl ?_); intro w2 hM2 t2)
    have hB2 := HH.out.1.newCl (g := w.heap.size) (id := c) (by
      cases ho : own w.heap.size with
      | none => rfl
      | some tg => exact absurd (H.out.b.lt _ _ ho) (Nat.lt_irrefl _)) (HH.out.2.1.of_block (t2.block _ HH.out.2.1.lt (by simpa using HH.out.2.2.1.symm))) hM2 t2
    have c2 := hB2.c0
    have l3 := hM2.look_hit encI Try.underlying47 hc (v := .map (some w.heap.size)) (by rw [mget_mput, if_pos rfl]) false
    simp only [Bool.false_eq_true, if_false, intV] at l3
    have hg0 : mget (mput cl c ⟨w.heap.size, []⟩) c = some ⟨w.heap.size, []⟩ := by rw [mget_mput, if_pos rfl]
    have hgm := (hB2.cls _ (mget_mem hg0)).map
    have HB := Lib.hid (And.intro hB2 (And.intro hg0 t2))
    clear hB2 hg0 t2 hM2 l1 l2 c0 e1 hmc
    go_wp2_with (at_mapUpdate; go_must (refine wpList_mt_store _ rfl _ _ _ 48 9 rfl encS Try.underlying48 hgm (by simp [mapS, maxLen]) hs rfl rfl (.string q) rfl ?_); intro w3 hM3 t3)
    have hF : ∃ own', BkE w3 own' pb (M.put c s q) (n + 1) ∧ Grow own own' w w3 := by
      have hb := HB.out.1.putCl HB.out.2.1 (l' := [(s, q)]) (hM3.of_eq rfl) t3
      refine ⟨_, ⟨bc, bn, bk, _, cn, hb, ?_, H.out.order, ?_, by have := H.out.s2; omega, by have := H.out.s3; show M.nm.length ≤ n + 1; omega, fun r hr => ?_, fun r hr => by have := H.out.s5 r hr; omega, H.out.s6⟩, ?_⟩
      · rw [mineOf_put, mineOf_put, H.out.mine]
        funext x
        show _ = upd M.mine c (mput (M.mine c) s q) x
        rw [HH.out.2.2.2.1]
        unfold upd
        by_cases e : c = x <;> simp [e, mput]
      · rw [mput_len_same HB.out.2.1]; have := mput_length cl c ⟨w.heap.size, []⟩; have := H.out.s1; omega
      · rcases mput_mem3 HB.out.1.clN hr with rfl | ⟨hr', _⟩
        · simp
        · rcases mput_mem hr' with rfl | hr'
          · simp
          · have := H.out.s4 r hr'; omega
      · refine (Grow.of_touch (own' := addO own w.heap.size (.client c)) (HH.out.2.2.2.2.1.mono (S' := [bc]) (by simp)) (fun i hi => .inl ?_) fun i hi hn => by rw [addO_old (by omega)]; exact hn).trans ((Grow.of_touch HB.out.2.2 (fun i hi => .inl ?_) fun _ _ h => h).trans (Grow.of_touch t3 (fun i hi => .inl ?_) fun _ _ h => h))
        · simp only [List.mem_cons, List.not_mem_nil, or_false] at hi
          subst hi; rw [H.out.b.o1]; simp
        · simp only [List.mem_cons, List.not_mem_nil, or_false] at hi
          subst hi; rw [HB.out.1.o1]; simp
        · simp only [List.mem_cons, List.not_mem_nil, or_false] at hi
          subst hi; rw [addO_same]; simp
    have HF := Lib.hid hF
    clear hF hM3 t3
    go_wp2
    go_ret
    exact ⟨rfl, HF.out⟩
  · have e1 := run_eql_map_nil (P := Try.prog) w 48 9 9 (some t.bl) Try.underlying48
    have ht := (h.b.cls _ (mget_mem hm)).map
    have h4 := h.s4 _ (mget_mem hm)
    have HM := Lib.hid hm
    have hmine : M.mine c = t.l := by rw [← h.mine]; unfold mineOf; rw [hm]
    have hmine2 : mineOf cl c = t.l := by unfold mineOf; rw [hm]
    rw [hmine2] at l2
    rw [hmine] at hx
    have HMI := Lib.hid hmine
    clear h hm hmine hmine2
    have hcase : ∀ w', MapT w' t.bl strV goodS (mput (mapS t.l) s (strV q)) → Touch [t.bl] w w' → ∃ own', BkE w' own' pb (M.put c s q) (n + 1) ∧ Grow own own' w w' := fun w' hM tt => by
      have hb := H.out.b.putCl HM.out (l' := mput t.l s q) (hM.of_eq (mput_map strV t.l s q)) tt
      refine ⟨own, ⟨bc, bn, bk, _, cn, hb, ?_, H.out.order, ?_, by have := H.out.s2; omega, by have := H.out.s3; show M.nm.length ≤ n + 1; omega, fun r hr => ?_, fun r hr => by have := H.out.s5 r hr; omega, H.out.s6⟩, Grow.of_touch tt (fun i hi => .inl ?_) fun _ _ h => h⟩
      · rw [mineOf_put, H.out.mine]
        show _ = upd M.mine c (mput (M.mine c) s q)
        rw [HMI.out]
      · rw [mput_len_same HM.out]; have := H.out.s1; omega
      · rcases mput_mem3 H.out.b.clN hr with rfl | ⟨hr', _⟩
        · have := mput_length t.l s q
          show (mput t.l s q).length ≤ n + 1
          have := H.out.s4 _ (mget_mem HM.out)
          simp only at this
          omega
        · have := H.out.s4 r hr'; omega
      · simp only [List.mem_cons, List.not_mem_nil, or_false] at hi
        subst hi
        rw [(H.out.b.cls _ (mget_mem HM.out)).own]; simp
    have HC := Lib.hid hcase
    clear hcase
    cases hg : mget t.l s with
    | none =>
      simp only [hg] at l2
      clear hx hg
      go_enter Try.func13, Try.ntmps13
      go_wp2_with fail
      refine (there_any H.out.b).mono ?_
      rintro e w1 ⟨rfl, rfl⟩
      go_wp2_with (at_mapUpdate; go_must (refine wpList_mt_store _ rfl _ _ _ 48 9 rfl encS Try.underlying48 ht (by simp [mapS, maxLen] at h4 ⊢; omega) hs rfl rfl (.string q) rfl ?_); intro w2 hM2 t2)
      have HF := Lib.hid (HC.out w2 hM2 t2)
      clear hM2 t2
      go_wp2
      go_ret
      exact ⟨rfl, HF.out⟩
    | some x =>
      have hse : s = ⟨#[]⟩ := by
        rcases hx with h1 | h1
        · rw [hg] at h1; cases h1
        · exact h1
      have n1 := isNil hse
      simp only [hg] at l2
      clear hx hg hse
      go_enter Try.func13, Try.ntmps13
      go_wp2_with fail
      refine (there_any H.out.b).mono ?_
      rintro e w1 ⟨rfl, rfl⟩
      go_wp2_with (at_mapUpdate; go_must (refine wpList_mt_store _ rfl _ _ _ 48 9 rfl encS Try.underlying48 ht (by simp [mapS, maxLen] at h4 ⊢; omega) hs rfl rfl (.string q) rfl ?_); intro w2 hM2 t2)
      have HF := Lib.hid (HC.out w2 hM2 t2)
      clear hM2 t2
      go_wp2
      go_ret
      exact ⟨rfl, HF.out⟩
end
end Go.Proofs.Ytjmgookpmngmaad
