/- A queue's Copy and Keys. -/
import Derived.Test.YthafopnaecbjdaaExA
import Derived.Test.YthafopnaecbjdaaMapIt
namespace Go.Proofs.Ythafopnaecbjdaa
open Go Go.RowKit Go.Maps Go.Proofs.YthafopnaecbjdaaW.PrintWords Go.Proofs.YthafopnaecbjdaaW.PrintLast

section
variable {w w' : World} {p mb : Nat} {hv : Value} {H L : List It} {P : List (ByteArray × Value)} {sets : Int}
theorem RowI.src {A : Option Addr} {n cp : Nat} (h : RowI w (.slice A n cp) H) : Src w A n 3 (fl3 H) := by
  have ho := h.own
  have e : n = H.length := by
    rcases h with ⟨e, e2⟩ | ⟨hb, cp', C, e, _⟩
    · injection e with _ e _
      subst e2; exact e
    · injection e
  rw [← e] at ho
  exact Src.own ho
/-- The copy's row is there. -/
theorem copy_mid {w3 w5 : World} {p2 mb2 n cp1 : Nat} {A1 : Option Addr} (h : QA w3 p2 mb2 (.slice none 0 0) [] [] sets) (hk : ∀ x ∈ H, goodS x.key) (hn : n = H.length) (ho : w5.ownsRow 0 52 3 (.slice A1 n cp1) n (fl3 H)) (hg : w3.drew.grownBy w5 none) (hat : (Value.slice A1 n cp1).ownBlock = none ∨ (Value.slice A1 n cp1).ownBlock = some w3.drew.heap.size) :
    QA (w5.setCell ⟨p2, 0, none⟩ (.slice A1 n cp1)) p2 mb2 (.slice A1 n cp1) H [] sets ∧ Touch [p2] w3 (w5.setCell ⟨p2, 0, none⟩ (.slice A1 n cp1)) ∧ ∀ j, (Value.slice A1 n cp1).ownBlock = some j → w3.heap.size ≤ j := by
  obtain ⟨a1, a2⟩ := h.apart
  have t5 : Touch [] w3 w5 := ((Touch.refl _ w3).drew).grownBy hg (fun i hi => by cases hi)
  have t6 : Touch [p2] w5 (w5.setCell ⟨p2, 0, none⟩ (.slice A1 n cp1)) := (Touch.refl _ _).setCell _ (.inl (by simp))
  have hnew : ∀ j, (Value.slice A1 n cp1).ownBlock = some j → w3.heap.size ≤ j := fun j hj => by
    rcases hat with e | e
    · rw [e] at hj; cases hj
    · rw [e] at hj; cases hj; exact Nat.le_refl _
  refine ⟨⟨(block_set ((t5.block p2 (heap_lt h.blk) (by simp)).trans h.blk) _).trans rfl, RowI.touch (RowI.of_own ?_) t6 (fun i hi hm => ?_), h.map.of_block ((t6.block mb2 (by have := h.map.lt; have := t5.size; omega) (by simpa using a1)).trans (t5.block mb2 h.map.lt (by simp))), hk⟩, (t5.mono (by simp)).trans t6 (by simp), hnew⟩
  · rw [← hn]; exact ho
  · have h1 := hnew i hi
    have h2 := heap_lt h.blk
    simp at hm
    omega
structure CpE (w wr : World) (p2 mb2 mb r : Nat) (hv2 : Value) (H : List It) (P : List (ByteArray × Value)) (sets : Int) (P2 todo : List (ByteArray × Value)) : Prop where
  q : QA wr p2 mb2 hv2 H P2 sets
  it : MapIt wr mb r strV goodS P todo
  sub : ∀ x ∈ todo, x ∈ P
  got : ∀ k, (∀ x ∈ todo, x.1 ≠ k) → mget P2 k = mget P k
  len : P2.length + todo.length ≤ P.length
  t : Touch [] w wr
  new : ∀ j ∈ Foot p2 mb2 hv2, w.heap.size ≤ j ∧ j ≠ r
  hr : w.heap.size ≤ r
  hm : mb < w.heap.size
theorem CpE.next {wr w7 w8 : World} {p2 mb2 r : Nat} {hv2 : Value} {P2 todo : List (ByteArray × Value)} {x : ByteArray} {v : Value} (h : CpE w wr p2 mb2 mb r hv2 H P sets P2 todo) (hm : (x, v) ∈ todo) (it7 : MapIt w7 mb r strV goodS P (mdel todo x)) (t7 : Touch [r] wr w7) (m8 : MapT w8 mb2 strV goodS (mput P2 x v)) (t8 : Touch [mb2] w7 w8) (hnd : (P.map (·.1)).Nodup) : CpE w w8 p2 mb2 mb r hv2 H P sets (mput P2 x v) (mdel todo x) := by
  have hmb2 := h.new mb2 (by simp [Foot])
  have q7 : QA w7 p2 mb2 hv2 H P2 sets := h.q.kept t7 (fun i hi => by simpa using (h.new i hi).2)
  refine ⟨q7.mapS t8 m8, it7.kept t8 (by have := h.hm; simp; omega) (by have := hmb2.2; simp; exact Ne.symm this), fun y hy => h.sub y (List.mem_filter.1 hy).1, fun k hk => ?_, ?_, (h.t.trans t7 (by simp; exact h.hr)).trans t8 (by simp; exact hmb2.1), h.new, h.hr, h.hm⟩
  · rw [mget_mput]
    by_cases e : x = k
    · subst e
      rw [if_pos rfl]
      exact (mem_mget hnd (h.sub _ hm)).symm
    · rw [if_neg e]
      refine h.got k fun y hy hyk => ?_
      exact hk y (List.mem_filter.2 ⟨hy, decide_eq_true (by rw [hyk]; exact Ne.symm e)⟩) hyk
  · have h1 := mput_length P2 x v
    have h2 := mdel_shorter hm
    have h3 := h.len
    omega
def CopyP (w : World) (L : List It) (sets : Int) (e : Ending) (w' : World) : Prop := ∃ p2, e = .returned (.pointer (some ⟨p2, 0, none⟩)) ∧ ∃ mb2 hv2, QL w' p2 mb2 hv2 L sets ∧ (∀ j ∈ Foot p2 mb2 hv2, w.heap.size ≤ j) ∧ Below w.heap.size w w'
theorem Touch.toBelow {w w' : World} (t : Touch [] w w') : Below w.heap.size w w' := t.below (Nat.le_refl _) (by simp)
set_option maxHeartbeats 4000000 in
theorem ecopy_any (h : QL w p mb hv L sets) : Calls Try.prog 16 #[.pointer (some ⟨p, 0, none⟩)] w (CopyP w L sets) := by
  have HL := Lib.hid h
  obtain ⟨H, ⟨P, hqa, hpl⟩, hhp, hpm⟩ := h.ex
  have HT := Lib.hid (ethere_any hqa)
  have HNEW := Lib.hid (fun w => enew_any w)
  have HQA := Lib.hid hqa
  have HPL := Lib.hid hpl
  have HHP := Lib.hid (And.intro hhp hpm)
  obtain ⟨A, cp, hs⟩ := hqa.slice
  subst hs
  obtain ⟨n, hn⟩ : ∃ n, n = H.length := ⟨_, rfl⟩
  have HN := Lib.hid hn
  have hln : n ≤ 100 := by
    have h1 := hpm.length_eq
    have := h.len
    omega
  obtain ⟨i0, hi0, hz0, hz1, hz2⟩ := info_t infoIt
  have HI0 := Lib.hid (And.intro hi0 (And.intro hz0 (And.intro hz1 hz2)))
  clear hi0 hz0 hz1 hz2 hqa hpl hhp hpm h hn
  go_enter Try.func16, Try.ntmps16
  repeat (first | go_step3 | go_values | go_skip | go_guarded | go_step | go_upon)
  (go_at_call 24; refine HT.out.mono ?_; rintro e w1 ⟨rfl, rfl⟩; dsimp only)
  repeat (first | go_step3 | go_values | go_skip | go_guarded | go_step | go_upon)
  (go_at_call 8; refine (HNEW.out _).mono ?_; rintro e w2 ⟨p2, mb2, rfl, q2, hp2, hm2, b2⟩; have HQ2 := Lib.hid q2; have HP2 := Lib.hid (And.intro hp2 hm2); have HB2 := Lib.hid b2; clear q2 hp2 hm2 b2; dsimp only)
  have HQA2 := Lib.hid (HQA.out.below HB2.out)
  obtain ⟨k0, _, k2, _⟩ := HQA2.out.cells
  obtain ⟨c0, c1, c2, f0, f2⟩ := HQ2.out.cells
  repeat (first | go_step3 | go_values | go_skip | go_guarded | go_step | go_upon)
  have HQ3 := Lib.hid (HQ2.out.setsS sets)
  have T3 : Hid (Touch [] w1 (w2.setCell ⟨p2, 2, none⟩ (.int .i64 sets))) := Lib.hid ((Touch.of_below HB2.out).trans HQ3.out.2 (by simp; exact HP2.out.1))
  have HS3 : Hid (w1.heap.size ≤ (w2.setCell ⟨p2, 2, none⟩ (.int .i64 sets)).heap.size) := Lib.hid T3.out.size
  generalize (w2.setCell ⟨p2, 2, none⟩ (.int .i64 sets)) = w3 at *
  clear c0 c1 c2 f0 f2 k0 k2
  have HQA3 : Hid (QA w3 p mb (.slice A n cp) H P sets) := Lib.hid (by have := HQA.out.kept T3.out (by simp); rw [← HN.out] at this; exact this)
  obtain ⟨c0, _, _, f0, _⟩ := HQ3.out.1.cells
  obtain ⟨k0, k1, _⟩ := HQA3.out.cells
  have d0 : w3.drew.cell? ⟨p2, 0, none⟩ = some (.slice none 0 0) := c0
  have e0 : w3.drew.cell? ⟨p, 0, none⟩ = some (.slice A n cp) := k0
  have HSRC : Hid (Src w3.drew A n 3 (fl3 H)) := Lib.hid (RowI.src (by exact HQA3.out.row.touch ((Touch.refl [] w3).drew) (by simp)))
  have Tn : Hid (∀ w5, w3.drew.grownBy w5 none → w5.cell? ⟨p2, 0, none⟩ = some (.slice none 0 0) ∧ w5.frozen? ⟨p2, 0, none⟩ = false) := Lib.hid (fun w5 g => by
    have k : Touch [] w3 w5 := ((Touch.refl _ w3).drew).grownBy g (fun i hi => by cases hi)
    have hb := k.block p2 (heap_lt HQ3.out.1.blk) (by simp)
    exact ⟨(World.cell?_of_block hb).trans c0, (World.frozen?_of_block hb).trans f0⟩)
  go_region_law (refine step_append_src rfl _ _ 46 rfl 0 52 i0 (.agg #[.string (⟨#[]⟩ : ByteArray), .int .i64 0, .int .i64 0]) 3 32 Try.underlying46 HI0.out.1 HI0.out.2.1 HI0.out.2.2.1 HI0.out.2.2.2 rfl (by decide) (.slice none 0 0) 0 [] rfl (World.ownsRow_nil _ _ _ _) A n cp (fl3 H) rfl HSRC.out (fl3_one H) (by simp [maxLen]; omega) (by omega) (Nat.zero_le _) ?_; intro v1 w5 hown5 hgr hloc; obtain ⟨g0, g1⟩ := Tn.out w5 hgr; rw [Nat.zero_add, List.nil_append] at hown5; obtain ⟨A1, cp1, rfl⟩ := own_slice2 hown5)
  all_goals
    have HMID := Lib.hid (copy_mid HQ3.out.1 HQA3.out.keys HN.out hown5 hgr hloc)
    generalize (w5.setCell ⟨p2, 0, none⟩ (.slice A1 n cp1)) = w6 at *
    clear hown5 hgr hloc g0 g1 d0 e0 c0 f0 k0 k1
    have T6 : Hid (Touch [] w1 w6) := Lib.hid (T3.out.trans HMID.out.2.1 (by simp; exact HP2.out.1))
    have HQA6 : Hid (QA w6 p mb (.slice A n cp) H P sets) := Lib.hid (by have := HQA.out.kept T6.out (by simp); rw [← HN.out] at this; exact this)
    obtain ⟨_, k1, _⟩ := HQA6.out.cells
    try dsimp only
    repeat ((fail_if_success at_range); first | go_step3 | go_values | go_skip | go_guarded | go_step | go_upon)
    at_range
    refine wpList_mt_range _ rfl _ _ 3 rfl Try.underlying47 HQA6.out.map rfl ?_
    intro w7 it7 t7
    have hlt : ∀ j ∈ Foot p2 mb2 (.slice A1 n cp1), w1.heap.size ≤ j ∧ j ≠ w6.heap.size := fun j hj => by
      have h1 := HMID.out.1.foot_lt j hj
      refine ⟨?_, by omega⟩
      simp only [Foot, List.mem_cons, Option.mem_toList] at hj
      rcases hj with rfl | rfl | hj
      · exact HP2.out.1
      · exact HP2.out.2
      · have := HMID.out.2.2 j hj; have := HS3.out; omega
    have KI : Hid (CpE w1 w7 p2 mb2 mb w6.heap.size (.slice A1 n cp1) H P sets [] P) := Lib.hid ⟨HMID.out.1.kept t7 (by simp), it7, fun x hx => hx, fun k hk => (mget_none.2 hk).symm, by simp, T6.out.trans t7 (by simp), hlt, T6.out.size, HQA.out.map.lt⟩
    have HND := Lib.hid HQA.out.map.nodup
    have HLP : Hid (P.length < maxLen) := Lib.hid (by have := HPL.out.len HND.out; rw [← HN.out] at this; simp [maxLen]; omega)
    clear k1 it7 t7 hlt
    generalize w6.heap.size = r at *
    dsimp only
    repeat (first | go_step3 | go_values | go_skip | go_guarded | go_step | go_upon)
    go_frame
    go_loopw [4, 5] (fun _ _ wx => ∃ (P2 todo : List (ByteArray × Value)), Hid (CpE w1 wx p2 mb2 mb r (.slice A1 n cp1) H P sets P2 todo)) (fun _ _ wx => wx.rangeLeft mb r)
    case atStart => exact ⟨_, _, KI⟩
    clear KI
    case round =>
      obtain ⟨P2, todo, KI⟩ := hrel
      repeat ((fail_if_success at_next); first | go_step3 | go_values | go_skip | go_guarded | go_step | go_upon)
      at_next
      refine wpList_mt_next _ rfl _ rfl encS.inj KI.out.it rfl ?_ ?_
      · intro hdone
        subst hdone
        dsimp only
        repeat (first | go_step3 | go_values | go_skip | go_guarded | go_step | go_upon)
        go_ret
        refine ⟨p2, rfl, mb2, _, ⟨⟨H, ⟨P2, KI.out.q, ?_⟩, HHP.out⟩, HL.out.ord, HL.out.nums, HL.out.ats, HL.out.len⟩, fun j hj => (KI.out.new j hj).1, KI.out.t.toBelow⟩
        have hg : ∀ k, mget P2 k = mget P k := fun k => KI.out.got k (by simp)
        exact ⟨HPL.out.nodup, fun j x hj => by rw [hg]; exact HPL.out.hit j x hj, fun k hk => by rw [hg]; exact HPL.out.miss k hk⟩
      · intro x v w8 hxT it8 t8 en8
        have HX := Lib.hid hxT
        have HIT := Lib.hid it8
        have HT8 := Lib.hid t8
        have HGX : Hid (goodS x) := Lib.hid (HQA.out.map.goods _ (KI.out.sub _ hxT))
        have HQ8 : Hid (QA w8 p2 mb2 (.slice A1 n cp1) H P2 sets) := Lib.hid (KI.out.q.kept t8 (fun i hi => by simpa using (KI.out.new i hi).2))
        have c1 := HQ8.out.cells.2.1
        clear hxT it8 t8
        simp only [strV] at en8 ⊢
        try dsimp only
        repeat ((fail_if_success at_mapUpdate); first | go_step3 | go_values | go_skip | go_guarded | go_step | go_upon)
        at_mapUpdate
        refine wpList_mt_store _ rfl _ _ _ 47 3 rfl encS Try.underlying47 HQ8.out.map (by have := KI.out.len; have := HLP.out; have : 0 < todo.length := List.length_pos_of_mem HX.out; omega) HGX.out rfl rfl v rfl ?_
        intro w9 m9 t9
        have KN := Lib.hid (KI.out.next HX.out HIT.out HT8.out m9 t9 HND.out)
        have hless : w9.rangeLeft mb r < wr.rangeLeft mb r := by
          rw [KN.out.it.left, KI.out.it.left]
          exact mdel_shorter HX.out
        clear m9 t9 en8 c1
        dsimp only
        repeat (first | go_step3 | go_values | go_skip | go_guarded | go_step | go_upon)
        go_frame
        go_roundw
        case rel => exact ⟨_, _, KN⟩
        case measure => exact hless
def KeysP (w : World) (L : List It) (e : Ending) (w' : World) : Prop := ∃ v, e = .returned v ∧ RowT w' v (keysL L) ∧ Below w.heap.size w w' ∧ ∀ i, v.ownBlock = some i → w.heap.size ≤ i
theorem ekeys_any (h : QL w p mb hv L sets) : Calls Try.prog 21 #[.pointer (some ⟨p, 0, none⟩)] w (KeysP w L) := by
  have HC := Lib.hid (ecopy_any h)
  have HL := Lib.hid h
  clear h
  go_enter Try.func21, Try.ntmps21
  repeat (first | go_step3 | go_values | go_skip | go_guarded | go_step | go_upon)
  (go_at_call 16; refine HC.out.mono ?_; rintro e w1 ⟨p2, rfl, mb2, hv2, q2, f2, b2⟩; have HQ2 := Lib.hid q2; have HF2 := Lib.hid f2; have HB2 := Lib.hid b2; clear q2 f2 b2; dsimp only)
  have HD := Lib.hid (due_any HQ2.out 1099511627776)
  repeat (first | go_step3 | go_values | go_skip | go_guarded | go_step | go_upon)
  (go_at_call 14; refine HD.out.mono ?_; rintro e w2 ⟨v, rfl, hv3, r3, q3, o3, t3, n3⟩; have HR3 := Lib.hid r3; have HT3 := Lib.hid t3; have HN3 := Lib.hid n3; clear r3 q3 o3 t3 n3; dsimp only)
  repeat (first | go_step3 | go_values | go_skip | go_guarded | go_step | go_upon)
  go_ret
  have hall : L.takeWhile (soon 1099511627776) = L := (soon_split (L1 := L) (L2 := []) (by simp) (fun x hx => (HL.out.ats x hx).2) (.inl rfl)).1
  refine ⟨v, rfl, by have := HR3.out; rw [hall] at this; exact this, HB2.out.trans (HT3.out.below HB2.out.size HF2.out), fun i hi => Nat.le_trans HB2.out.size (HN3.out i hi)⟩
end
end Go.Proofs.Ythafopnaecbjdaa
