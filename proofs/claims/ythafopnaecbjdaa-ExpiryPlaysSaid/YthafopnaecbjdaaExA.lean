/- A queue's Set, over its keys in order. -/
import Derived.Test.YthafopnaecbjdaaEx9
namespace Go.Proofs.Ythafopnaecbjdaa
open Go Go.RowKit Go.Maps Go.Proofs.YthafopnaecbjdaaW.PrintWords Go.Proofs.YthafopnaecbjdaaW.PrintLast

/-! ### the heap's row as a row of one's own -/
def fl3 (H : List It) : List Value := H.flatMap cellsI
theorem fl3_len (H : List It) : (fl3 H).length = H.length * 3 := by
  induction H with
  | nil => rfl
  | cons a r ih =>
    show (cellsI a ++ fl3 r).length = _
    rw [List.length_append, ih]
    simp only [List.length_cons, cellsI, List.length_nil]
    omega
theorem fl3_app (H : List It) (x : It) : fl3 (H ++ [x]) = fl3 H ++ cellsI x := by
  unfold fl3
  rw [List.flatMap_append]
  simp
theorem fl3_at : ∀ (H : List It) (i : Nat) (x : It), H[i]? = some x → (fl3 H)[i * 3]? = some (.string x.key) ∧ (fl3 H)[i * 3 + 1]? = some (.int .i64 x.at_) ∧ (fl3 H)[i * 3 + 2]? = some (.int .i64 x.num)
  | [], i, x, h => by simp at h
  | a :: r, 0, x, h => by
    have h : some a = some x := h
    cases h
    exact ⟨rfl, rfl, rfl⟩
  | a :: r, i + 1, x, h => by
    have h : r[i]? = some x := h
    have := fl3_at r i x h
    rw [show (i + 1) * 3 = i * 3 + 3 by omega]
    exact this
theorem fl3_one (H : List It) : ∀ u ∈ fl3 H, u.oneCell' = true := by
  intro u hu
  obtain ⟨x, _, hx⟩ := List.mem_flatMap.1 hu
  simp only [cellsI, List.mem_cons, List.not_mem_nil, or_false] at hx
  rcases hx with rfl | rfl | rfl <;> rfl
theorem RowI.own {w : World} {hv : Value} {H : List It} (h : RowI w hv H) : w.ownsRow 0 52 3 hv H.length (fl3 H) := by
  refine ⟨fl3_len H, ?_⟩
  rcases h with ⟨rfl, rfl⟩ | ⟨hb, cp, C, rfl, hh, hs, hl, hm, hx⟩
  · exact .inl ⟨rfl, rfl⟩
  · refine .inr ⟨hb, cp, C, rfl, Nat.zero_le _, hh, hl, hm, hs, ?_⟩
    apply List.ext_getElem?
    intro j
    by_cases hj : j < H.length * 3
    · rw [List.getElem?_take, if_pos hj]
      have hq : j / 3 < H.length := by omega
      obtain ⟨a0, a1, a2⟩ := hx (j / 3) _ (of_at hq)
      obtain ⟨b0, b1, b2⟩ := fl3_at H (j / 3) _ (of_at hq)
      have hr : j = j / 3 * 3 ∨ j = j / 3 * 3 + 1 ∨ j = j / 3 * 3 + 2 := by omega
      rcases hr with e | e | e <;> rw [e, Array.getElem?_toList]
      · rw [a0, b0]
      · rw [a1, b1]
      · rw [a2, b2]
    · rw [List.getElem?_eq_none (by rw [List.length_take]; omega), List.getElem?_eq_none (by rw [fl3_len]; omega)]
theorem RowI.of_own {w : World} {v : Value} {H : List It} (h : w.ownsRow 0 52 3 v H.length (fl3 H)) : RowI w v H := by
  rcases h.2 with ⟨rfl, h0⟩ | ⟨g, cap, cur, rfl, _, hg, hle, hmx, hs, ht⟩
  · exact .inl ⟨rfl, List.eq_nil_of_length_eq_zero h0⟩
  · refine .inr ⟨g, cap, cur, rfl, hg, hs, hle, hmx, fun j x hj => ?_⟩
    have hlt := (List.getElem?_eq_some_iff.1 hj).1
    obtain ⟨b0, b1, b2⟩ := fl3_at H j x hj
    have hc : ∀ i, i < H.length * 3 → cur[i]? = (fl3 H)[i]? := fun i hi => by
      rw [← ht, List.getElem?_take, if_pos hi, Array.getElem?_toList]
    exact ⟨by rw [hc _ (by omega)]; exact b0, by rw [hc _ (by omega)]; exact b1, by rw [hc _ (by omega)]; exact b2⟩
theorem infoIt : (Try.prog.info? 52).map (fun i => (i.zero, i.size, i.bytes)) = some (some (.agg #[.string (⟨#[]⟩ : ByteArray), .int .i64 0, .int .i64 0]), 3, 32) := by kernel_rfl
section
variable {w w' : World} {p mb : Nat} {hv : Value} {H L : List It} {P : List (ByteArray × Value)} {sets : Int}
theorem Places.push {x : It} (h : Places P H) (hx : ∀ y ∈ H, y.key ≠ x.key) : Places (mput P x.key (.int .i64 H.length)) (H ++ [x]) := by
  refine ⟨?_, fun j y hj => ?_, fun k hk => ?_⟩
  · rw [List.map_append, List.nodup_append]
    refine ⟨h.nodup, by simp, fun a ha b hb => ?_⟩
    obtain ⟨y, hy, rfl⟩ := List.mem_map.1 ha
    simp at hb
    rw [hb]
    exact hx y hy
  · rw [mget_mput]
    by_cases hl : j < H.length
    · rw [List.getElem?_append_left hl] at hj
      rw [if_neg (Ne.symm (hx y (List.mem_of_getElem? hj)))]
      exact h.hit j y hj
    · rw [List.getElem?_append_right (by omega)] at hj
      have h1 := (List.getElem?_eq_some_iff.1 hj).1
      simp at h1
      have e : j = H.length := by omega
      subst e
      simp at hj
      rw [hj, if_pos rfl]
  · rw [mget_mput, if_neg (hk x (by simp))]
    exact h.miss k fun y hy => hk y (by simp [hy])
theorem QA.setsS (h : QA w p mb hv H P sets) (s' : Int) : QA (w.setCell ⟨p, 2, none⟩ (.int .i64 s')) p mb hv H P s' ∧ Touch [p] w (w.setCell ⟨p, 2, none⟩ (.int .i64 s')) := by
  have t : Touch [p] w (w.setCell ⟨p, 2, none⟩ (.int .i64 s')) := (Touch.refl _ _).setCell _ (.inl (by simp))
  refine ⟨⟨(block_set h.blk _).trans rfl, h.row.touch t (fun i hi e => ?_), h.map.of_block (t.block mb h.map.lt (fun e => ?_)), h.keys⟩, t⟩
  · simp only [List.mem_singleton] at e
    subst e
    rcases h.row with ⟨e, _⟩ | ⟨hb, cp, C, e, hh, _⟩
    · subst e; cases hi
    · subst e
      simp only [Value.ownBlock, Option.some.injEq] at hi
      subst hi
      have := h.blk
      rw [hh] at this
      cases this
  · simp only [List.mem_singleton] at e
    subst e
    obtain ⟨es, cl, hmm, _⟩ := h.map
    have := h.blk
    rw [hmm] at this
    cases this
def putL (L : List It) (k : ByteArray) (at_ sets : Int) : List It := insI (dropL L k) ⟨k, at_, sets + 1⟩
structure Mid (w3 w6 : World) (p mb : Nat) (hv hv' : Value) (H : List It) (P : List (ByteArray × Value)) (sets : Int) : Prop where
  q : QA w6 p mb hv' H P sets
  t : Touch (Foot p mb hv) w3 w6
  f : ∀ j ∈ Foot p mb hv', j ∈ Foot p mb hv ∨ w3.heap.size ≤ j
theorem QA.apart (h : QA w p mb hv H P sets) : mb ≠ p ∧ (∀ i, hv.ownBlock = some i → i ≠ p ∧ i ≠ mb) := by
  obtain ⟨es, cl, hmm, _⟩ := h.map
  refine ⟨?_, fun i hi => ?_⟩
  · rintro rfl
    have := h.blk
    rw [hmm] at this
    cases this
  · rcases h.row with ⟨e, _⟩ | ⟨hb, cp, C, e, hh, _⟩
    · subst e; cases hi
    · subst e
      simp only [Value.ownBlock, Option.some.injEq] at hi
      subst hi
      refine ⟨?_, ?_⟩
      · rintro rfl
        have := h.blk
        rw [hh] at this
        cases this
      · rintro rfl
        rw [hh] at hmm
        cases hmm
theorem mid_ok {w3 w5 : World} {A A1 : Option Addr} {n cp cp1 : Nat} {x : It} (h : QA w3 p mb (.slice A n cp) H P sets) (hn : n = H.length) (hx : goodS x.key) (ho : w5.ownsRow 0 52 3 (.slice A1 (n + 1) cp1) (n + 1) (fl3 H ++ cellsI x))
    (hg : (w3.drew.alloc (Obj.cells #[.string x.key, .int .i64 x.at_, .int .i64 x.num] 52)).grownBy w5 (Value.slice A n cp).ownBlock)
    (hat : (Value.slice A1 (n + 1) cp1).ownBlock = (Value.slice A n cp).ownBlock ∨ (Value.slice A1 (n + 1) cp1).ownBlock = some (w3.drew.alloc (Obj.cells #[.string x.key, .int .i64 x.at_, .int .i64 x.num] 52)).heap.size) :
    Mid w3 (w5.setCell ⟨p, 0, none⟩ (.slice A1 (n + 1) cp1)) p mb (.slice A n cp) (.slice A1 (n + 1) cp1) (H ++ [x]) P sets := by
  obtain ⟨a1, a2⟩ := h.apart
  have t5 : Touch (Value.slice A n cp).ownBlock.toList w3 w5 := ((Touch.refl _ w3).drew.alloc _).grownBy hg (fun i hi => .inl (by simp [hi]))
  have hp5 := t5.block p (heap_lt h.blk) (fun hm => (a2 p (by simpa using hm)).1 rfl)
  have hm5 := t5.block mb h.map.lt (fun hm => (a2 mb (by simpa using hm)).2 rfl)
  have hnp : ∀ i, (Value.slice A1 (n + 1) cp1).ownBlock = some i → i ≠ p := fun i hi => by
    rcases hat with e | e
    · exact (a2 i (e ▸ hi)).1
    · rw [e] at hi
      cases hi
      have := heap_lt h.blk
      simp
      omega
  have t6 : Touch [p] w5 (w5.setCell ⟨p, 0, none⟩ (.slice A1 (n + 1) cp1)) := (Touch.refl _ _).setCell _ (.inl (by simp))
  refine ⟨⟨(block_set (hp5.trans h.blk) _).trans rfl, RowI.touch (RowI.of_own ?_) t6 (fun i hi hm => hnp i hi (by simpa using hm)), h.map.of_block ((t6.block mb (by have := h.map.lt; have := t5.size; omega) (by simpa using a1)).trans hm5), fun y hy => ?_⟩, ?_, fun j hj => ?_⟩
  · rw [fl3_app, List.length_append, List.length_singleton, ← hn]
    exact ho
  · rcases List.mem_append.1 hy with hy | hy
    · exact h.keys y hy
    · rw [List.mem_singleton.1 hy]; exact hx
  · exact (t5.mono (S' := Foot p mb (.slice A n cp)) (fun i hi => by simp at hi; simp [Foot, hi])).trans t6 (fun i hi => .inl (by simp at hi; simp [Foot, hi]))
  · simp only [Foot, List.mem_cons, Option.mem_toList] at hj ⊢
    rcases hj with hj | hj | hj
    · exact .inl (.inl hj)
    · exact .inl (.inr (.inl hj))
    · rcases hat with e | e
      · rw [e] at hj; exact .inl (.inr (.inr hj))
      · rw [e] at hj
        cases hj
        refine .inr ?_
        simp
theorem QL.pushed {p mb : Nat} {hv hv' : Value} {w w' : World} {H L : List It} {sets : Int} {k : ByteArray} {at_ : Int} (h : QL w p mb hv (dropL L k) sets) (hh : HpI H) (hp : H.Perm (dropL L k)) (h0 : 0 ≤ at_ ∧ at_ ≤ 1099511627776) (hl : L.length < 100) (q : QP w' p mb hv' (pushI H ⟨k, at_, sets + 1⟩) (sets + 1)) : QL w' p mb hv' (putL L k at_ sets) (sets + 1) := by
  have hm : ∀ x ∈ putL L k at_ sets, x = ⟨k, at_, sets + 1⟩ ∨ x ∈ dropL L k := fun x hx => List.mem_cons.1 ((ins_perm _ _).subset hx)
  refine ⟨⟨_, q, (pushI_ok hh _).1, push_ins hh hp _⟩, ins_ord _ _ h.ord (fun y hy => by have := h.nums y hy; show y.num < sets + 1; omega), fun x hx => ?_, fun x hx => ?_, ?_⟩
  · rcases hm x hx with rfl | hx
    · exact Int.le_refl _
    · have := h.nums x hx; omega
  · rcases hm x hx with rfl | hx
    · exact h0
    · exact h.ats x hx
  · have h1 := (ins_perm (dropL L k) ⟨k, at_, sets + 1⟩).length_eq
    have h2 : (dropL L k).length ≤ L.length := List.length_filter_le _ _
    unfold putL
    rw [h1, List.length_cons]
    omega
theorem own_n (A : Option Addr) (n m c d : Nat) : (Value.slice A n c).ownBlock = (Value.slice A m d).ownBlock := by cases A <;> rfl
theorem set_bad (h : QL w p mb hv L sets) (k : ByteArray) (at_ : Int) (hb : at_ < 0 ∨ 1099511627776 < at_) : Calls Try.prog 9 #[.pointer (some ⟨p, 0, none⟩), .string k, .int .i64 at_] w fun e w' => e = .returned (.int .i64 1) ∧ w' = w := by
  have HT : Hid (Calls Try.prog 24 #[.pointer (some ⟨p, 0, none⟩)] w fun e w' => e = .returned (.bool true) ∧ w' = w) := Lib.hid (by
    obtain ⟨H, ⟨P, a, b⟩, _⟩ := h.ex
    exact ethere_any a)
  clear h
  by_cases h0 : at_ < 0
  · clear hb
    go_enter Try.func9, Try.ntmps9
    repeat (first | go_step3 | go_values | go_skip | go_guarded | go_step | go_upon)
    (go_at_call 24; refine HT.out.mono ?_; rintro e w1 ⟨rfl, rfl⟩; dsimp only)
    repeat (first | go_step3 | go_values | go_skip | go_guarded | go_step | go_upon)
    go_ret
    exact ⟨rfl, rfl⟩
  · have h1 : at_ > 1099511627776 := by omega
    clear hb
    go_enter Try.func9, Try.ntmps9
    repeat (first | go_step3 | go_values | go_skip | go_guarded | go_step | go_upon)
    (go_at_call 24; refine HT.out.mono ?_; rintro e w1 ⟨rfl, rfl⟩; dsimp only)
    repeat (first | go_step3 | go_values | go_skip | go_guarded | go_step | go_upon)
    go_ret
    exact ⟨rfl, rfl⟩
def SetP (w : World) (p mb : Nat) (hv : Value) (L : List It) (sets : Int) (k : ByteArray) (at_ : Int) (e : Ending) (w' : World) : Prop :=
  e = .returned (.int .i64 0) ∧ ∃ hv', QL w' p mb hv' (putL L k at_ sets) (sets + 1) ∧ (∀ j ∈ Foot p mb hv', j ∈ Foot p mb hv ∨ w.heap.size ≤ j) ∧ Touch (Foot p mb hv) w w'
set_option maxHeartbeats 4000000 in
theorem set_any (h : QL w p mb hv L sets) (k : ByteArray) (hk : goodS k) (at_ : Int) (h0 : 0 ≤ at_) (h1 : at_ ≤ 1099511627776) (hs0 : 0 ≤ sets) (hs1 : sets ≤ 1000) (hlen : L.length < 100) : Calls Try.prog 9 #[.pointer (some ⟨p, 0, none⟩), .string k, .int .i64 at_] w (SetP w p mb hv L sets k at_) := by
  have HL := Lib.hid h
  have HK := Lib.hid hk
  have HLEN := Lib.hid hlen
  have HAT := Lib.hid (And.intro h0 h1)
  have HT : Hid (Calls Try.prog 24 #[.pointer (some ⟨p, 0, none⟩)] w fun e w' => e = .returned (.bool true) ∧ w' = w) := Lib.hid (by
    obtain ⟨H, ⟨P, a, b⟩, _⟩ := h.ex
    exact ethere_any a)
  have HDr := Lib.hid (drop_any h k hk)
  have n0 : ¬ at_ < 0 := by omega
  have n1 : ¬ at_ > 1099511627776 := by omega
  obtain ⟨i0, hi0, hz0, hz1, hz2⟩ := info_t infoIt
  have HI0 := Lib.hid (And.intro hi0 (And.intro hz0 (And.intro hz1 hz2)))
  clear hi0 hz0 hz1 hz2 h hk hlen
  go_enter Try.func9, Try.ntmps9
  repeat (first | go_step3 | go_values | go_skip | go_guarded | go_step | go_upon)
  (go_at_call 24; refine HT.out.mono ?_; rintro e w1 ⟨rfl, rfl⟩; dsimp only)
  repeat (first | go_step3 | go_values | go_skip | go_guarded | go_step | go_upon)
  (go_at_call 11; refine HDr.out.mono ?_; rintro e w2 ⟨rfl, hv2, q2, o2, t2⟩; have HQ2 := Lib.hid q2; have HO2 := Lib.hid o2; have HT2 := Lib.hid t2; clear q2 o2 t2; dsimp only)
  obtain ⟨H, ⟨P, hqa, hpl⟩, hhp, hpm⟩ := HQ2.out.ex
  have HQA := Lib.hid hqa
  have HPL := Lib.hid hpl
  have HHP := Lib.hid (And.intro hhp hpm)
  obtain ⟨A, cp, hs⟩ := hqa.slice
  subst hs
  obtain ⟨c0, _, c2, f0, f2⟩ := hqa.cells
  obtain ⟨n, hn⟩ : ∃ n, n = H.length := ⟨_, rfl⟩
  have HN := Lib.hid hn
  rw [← hn] at c0
  have hln : n < 100 := by
    have h1 := hpm.length_eq
    have h2 : (dropL L k).length ≤ L.length := List.length_filter_le _ _
    have := HLEN.out
    omega
  clear hqa hpl hhp hpm hn
  repeat ((fail_if_success (with_reducible refine gate_dst (N := 29) rfl ?_)); first | go_step3 | go_values | go_skip | go_guarded | go_step | go_upon)
  have HQ3 := Lib.hid (HQA.out.setsS (sets + 1))
  generalize (w2.setCell ⟨p, 2, none⟩ (.int .i64 (sets + 1))) = w3 at *
  clear c0 c2 f0 f2
  obtain ⟨c0, _, c2, f0, f2⟩ := HQ3.out.1.cells
  rw [← HN.out] at c0
  repeat (first | go_step3 | go_values | go_skip | go_guarded | go_step | go_upon)
  have d0 : w3.drew.cell? ⟨p, 0, none⟩ = some (.slice A n cp) := c0
  have d2 : w3.drew.cell? ⟨p, 2, none⟩ = some (.int .i64 (sets + 1)) := c2
  have a0 : (w3.alloc (Obj.cells #[.string k, .int .i64 at_, .int .i64 (sets + 1)] 52)).cell? ⟨p, 0, none⟩ = some (.slice A n cp) := ((Touch.refl [] w3).alloc _).cell c0 (by simp)
  have HOWN : Hid ((w3.drew.alloc (Obj.cells #[.string k, .int .i64 at_, .int .i64 (sets + 1)] 52)).ownsRow 0 52 3 (.slice A n cp) n (fl3 H)) := Lib.hid (by
    have := HQ3.out.1.row.own
    rw [← HN.out] at this
    exact own_touch' this ((Touch.refl [] w3).drew.alloc _) (by simp))
  have Tn : Hid (∀ w5, (w3.drew.alloc (Obj.cells #[.string k, .int .i64 at_, .int .i64 (sets + 1)] 52)).grownBy w5 (Value.slice A n cp).ownBlock → w5.cell? ⟨p, 0, none⟩ = some (.slice A n cp) ∧ w5.frozen? ⟨p, 0, none⟩ = false) := Lib.hid (fun w5 g => by
    have k : Touch (Value.slice A n cp).ownBlock.toList w3 w5 := ((Touch.refl _ w3).drew.alloc _).grownBy g (fun i hi => .inl (by simp [hi]))
    have hb := k.block p (heap_lt HQ3.out.1.blk) (by
      intro hm
      simp only [Option.mem_toList] at hm
      rcases HQ3.out.1.row with ⟨e, _⟩ | ⟨hb, cp', C, e, hh, _⟩
      · injection e with e1 _ _
        subst e1
        cases hm
      · injection e with e1 _ _
        subst e1
        simp only [Value.ownBlock, Option.some.injEq] at hm
        subst hm
        have := HQ3.out.1.blk
        rw [hh] at this
        cases this)
    exact ⟨(World.cell?_of_block hb).trans c0, (World.frozen?_of_block hb).trans f0⟩)
  go_region_law (refine step_append_at rfl _ _ 46 rfl 0 52 i0 (.agg #[.string (⟨#[]⟩ : ByteArray), .int .i64 0, .int .i64 0]) 3 32 Try.underlying46 HI0.out.1 HI0.out.2.1 HI0.out.2.2.1 HI0.out.2.2.2 rfl (by decide) (.slice A n cp) n (fl3 H) rfl HOWN.out ⟨w3.heap.size, 0, none⟩ 1 1 [.string k, .int .i64 at_, .int .i64 (sets + 1)] rfl rfl (news_of (cs := #[.string k, .int .i64 at_, .int .i64 (sets + 1)]) (t := 52) (fr := (0, 0)) (heap_alloc_new w3.drew _)) (by simp [Value.oneCell']) (by simp [maxLen]; omega) (by omega) (Nat.zero_le _) ?_; intro v1 w5 hown5 hgr hloc; obtain ⟨f0, f1⟩ := Tn.out w5 hgr; obtain ⟨A1, cp1, rfl⟩ := own_slice2 hown5)
  all_goals
    have HMID := Lib.hid (mid_ok (x := ⟨k, at_, sets + 1⟩) (n := n) (by have := HQ3.out.1; rw [← HN.out] at this; exact this) HN.out HK.out hown5 hgr hloc)
    generalize (w5.setCell ⟨p, 0, none⟩ (.slice A1 (n + 1) cp1)) = w6 at *
    clear hown5 hgr hloc f0 f1 d0 d2 a0 c0 c2
    obtain ⟨e0, e1, _⟩ := HMID.out.q.cells
    have HLU : Hid ((H ++ [(⟨k, at_, sets + 1⟩ : It)]).length = n + 1) := Lib.hid (by rw [HN.out]; simp)
    try dsimp only
    repeat ((fail_if_success at_mapUpdate); first | go_step3 | go_values | go_skip | go_guarded | go_step | go_upon)
    at_mapUpdate
    refine wpList_mt_store _ rfl _ _ _ 47 3 rfl encS Try.underlying47 HMID.out.q.map (by have := HPL.out.len HQA.out.map.nodup; rw [← HN.out] at this; simp [maxLen]; omega) HK.out rfl rfl (.int .i64 n) rfl ?_
    intro w7 m7 t7
    have HQ7 : Hid (QP w7 p mb (.slice A1 (n + 1) cp1) (H ++ [⟨k, at_, sets + 1⟩]) (sets + 1)) := Lib.hid ⟨_, HMID.out.q.mapS t7 m7, by rw [HN.out]; exact HPL.out.push (x := ⟨k, at_, sets + 1⟩) (fun y hy => of_decide_eq_true (List.mem_filter.1 (HHP.out.2.subset hy)).2)⟩
    have HT7 := Lib.hid (HMID.out.t.trans t7 (fun j hj => .inl (by simp at hj; simp [Foot, hj])))
    clear m7 t7 e0 e1
    have HU := Lib.hid (up_any HQ7.out (by rw [HLU.out]; omega) n n (by rw [HLU.out]; omega) (Nat.le_refl _))
    dsimp only
    repeat (first | go_step3 | go_values | go_skip | go_guarded | go_step | go_upon)
    (go_at_call 25; refine HU.out.mono ?_; rintro e w8 ⟨rfl, q8, t8⟩; have HQ8 := Lib.hid q8; have HT8 := Lib.hid t8; clear q8 t8; dsimp only)
    repeat (first | go_step3 | go_values | go_skip | go_guarded | go_step | go_upon)
    go_ret
    have hfeq : ∀ j ∈ Foot p mb (.slice A n cp), j ∈ Foot p mb hv := fun j hj => by rw [foot_own (a := .slice A n cp) (b := hv) ((own_n _ _ _ _ _).trans HO2.out)] at hj; exact hj
    have hsz : w1.heap.size ≤ w3.heap.size := Nat.le_trans HT2.out.size HQ3.out.2.size
    have hfm : ∀ j ∈ Foot p mb (.slice A1 (n + 1) cp1), j ∈ Foot p mb hv ∨ w1.heap.size ≤ j := fun j hj => by
      rcases HMID.out.f j hj with h | h
      · exact .inl (hfeq j h)
      · exact .inr (by omega)
    refine ⟨rfl, _, HQ2.out.pushed HHP.out.1 HHP.out.2 HAT.out HLEN.out (by unfold pushI; rw [← HN.out]; exact HQ8.out), hfm, ?_⟩
    exact ((HT2.out.trans HQ3.out.2 (fun j hj => .inl (by simp at hj; simp [Foot, hj]))).trans HT7.out (fun j hj => .inl (hfeq j hj))).trans HT8.out hfm
end
end Go.Proofs.Ythafopnaecbjdaa
