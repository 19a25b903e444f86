/- ExpiryPlays: whatever is set, dropped and due is as the document says. -/
import Derived.Test.YthafopnaecbjdaaExDrops
import Derived.Test.YthafopnaecbjdaaExI
import Derived.Deep.RegionWith
namespace Go.Proofs.Ythafopnaecbjdaa
open Go Go.RowKit Go.Maps Go.WideShapes Go.Proofs.Ythafopnaecbjdaa.Pa Go.Proofs.YthafopnaecbjdaaW.PrintWords Go.Proofs.YthafopnaecbjdaaW.PrintLast Go.Proofs.YthafopnaecbjdaaW.PrintMore

structure PlI (w wr : World) (p mb : Nat) (hv : Value) (r : Nat) (rv : Value) (L : List It) (sets : Int) (k : Nat) : Prop where
  q : QS w wr p mb hv L sets
  rq : RQ wr r rv L
  n : ∀ j ∈ Foot p mb hv, j ≠ r ∧ rv.ownBlock ≠ some j
  rn : w.heap.size ≤ r
  vn : ∀ i, rv.ownBlock = some i → w.heap.size ≤ i
  s0 : 0 ≤ sets
  s1 : sets ≤ k
  len : L.length ≤ k
section
variable {w wr w5 w6 : World} {p mb : Nat} {hv hv5 : Value} {r : Nat} {rv rv6 : Value} {L L' : List It} {sets s' : Int} {k k' : Nat}
theorem RowR.lt {w : World} {v : Value} {L : List It} (h : RowR w v L) : ∀ i, v.ownBlock = some i → i < w.heap.size := by
  intro i hi
  rcases h.2 with ⟨rfl, _⟩ | ⟨g, cap, cur, rfl, _, hg, _⟩
  · cases hi
  · simp only [Value.ownBlock, Option.some.injEq] at hi
    subst hi
    exact heap_lt hg
theorem PlI.below (h : PlI w wr p mb hv r rv L sets k) (b : Below wr.heap.size wr w5) : PlI w w5 p mb hv r rv L sets k :=
  ⟨h.q.below b, h.rq.kept0 (Touch.of_below b), h.n, h.rn, h.vn, h.s0, h.s1, h.len⟩
theorem PlI.mid (h : PlI w wr p mb hv r rv L sets k) (t : Touch (Foot p mb hv) wr w5) : RQ w5 r rv L :=
  h.rq.kept t (fun hm => (h.n r hm).1 rfl) (fun i hi hm => (h.n i hm).2 hi)
theorem PlI.both (h : PlI w wr p mb hv r rv L sets k) (q : QS w w5 p mb hv5 L' s') (_t : Touch (Foot p mb hv) wr w5) (f : ∀ j ∈ Foot p mb hv5, j ∈ Foot p mb hv ∨ wr.heap.size ≤ j) (r6 : RQ w6 r rv6 L') (t6 : Touch [r] w5 w6) (n6 : ∀ i, rv6.ownBlock = some i → rv.ownBlock = some i ∨ w5.heap.size ≤ i)
    (s0 : 0 ≤ s') (s1 : s' ≤ k') (len : L'.length ≤ k') : PlI w w6 p mb hv5 r rv6 L' s' k' := by
  have hr := heap_lt h.rq.blk
  have hnr : ∀ j ∈ Foot p mb hv5, j ≠ r := fun j hj => by
    rcases f j hj with h1 | h1
    · exact (h.n j h1).1
    · omega
  refine ⟨q.other t6 (fun i hi hm => hnr i hi (by simpa using hm)) (q.b.trans (t6.below q.b.size (by simp; exact h.rn))), r6, fun j hj => ⟨hnr j hj, fun e => ?_⟩, h.rn, fun i hi => ?_, s0, s1, len⟩
  · have hlt := q.q.foot_lt j hj
    rcases n6 j e with h1 | h1
    · rcases f j hj with h2 | h2
      · exact (h.n j h2).2 h1
      · have := h.rq.row.lt j h1; omega
    · omega
  · rcases n6 i hi with h1 | h1
    · exact h.vn i h1
    · have := q.b.size; omega
end
theorem due_qs2 {w w1 : World} {p mb : Nat} {hv : Value} {L : List It} {sets : Int} (h : QS w w1 p mb hv L sets) (n : Int) : Calls Try.prog 14 #[.pointer (some ⟨p, 0, none⟩), .int .i64 n] w1 fun e w' => ∃ v, e = .returned v ∧ ∃ hv', QS w w' p mb hv' (L.dropWhile (soon n)) sets ∧ RowT w' v (keysL (L.takeWhile (soon n))) ∧ (∀ i, v.ownBlock = some i → w1.heap.size ≤ i) ∧ Foot p mb hv' = Foot p mb hv ∧ Touch (Foot p mb hv) w1 w' := by
  refine (due_any h.q n).mono ?_
  rintro e w' ⟨v, rfl, hv', r, q, o, t, m⟩
  exact ⟨v, rfl, hv', ⟨q, fun j hj => h.f j (by rw [foot_own o] at hj; exact hj), h.b.trans (t.below h.b.size h.f)⟩, r, m, foot_own o, t⟩
/-- The copy takes the queue's place. -/
theorem PlI.copy {w w1 w4 w6 w7 : World} {p mb p4 mb4 : Nat} {hv hv4 hv6 : Value} {r : Nat} {rv : Value} {L : List It} {sets : Int} {k : Nat} (h : PlI w w1 p mb hv r rv L sets k) (q4 : QS w w4 p4 mb4 hv4 L sets) (f4 : ∀ j ∈ Foot p4 mb4 hv4, w1.heap.size ≤ j) (b4 : Below w1.heap.size w1 w4) (t6 : Touch (Foot p mb hv) w4 w6) (f6 : ∀ j ∈ Foot p mb hv6, j ∈ Foot p mb hv ∨ w4.heap.size ≤ j) (t7 : Touch (Foot p mb hv6) w6 w7) : PlI w w7 p4 mb4 hv4 r rv L sets (k + 1) ∧ Touch (Foot p mb hv) w1 w7 := by
  have hlt := h.q.q.foot_lt
  have hsz := b4.size
  have t17 : Touch (Foot p mb hv) w1 w7 := ((Touch.of_below b4).mono (S' := Foot p mb hv) (by simp)).trans t6 (fun _ h => .inl h) |>.trans t7 (fun j hj => by
    rcases f6 j hj with h1 | h1
    · exact .inl h1
    · exact .inr (by omega))
  have h4 : ∀ j ∈ Foot p4 mb4 hv4, j ∉ Foot p mb hv ∧ j ∉ Foot p mb hv6 := fun j hj => by
    have h1 := f4 j hj
    have h2 := q4.q.foot_lt j hj
    refine ⟨fun hm => by have := hlt j hm; omega, fun hm => ?_⟩
    rcases f6 j hm with h3 | h3
    · have := hlt j h3; omega
    · omega
  have b7 : Below w.heap.size w w7 := h.q.b.trans (t17.below h.q.b.size h.q.f)
  refine ⟨⟨(q4.other t6 (fun i hi => (h4 i hi).1) (q4.b.trans (t6.below q4.b.size h.q.f))).other t7 (fun i hi => (h4 i hi).2) b7, h.mid t17, fun j hj => ⟨?_, fun e => ?_⟩, h.rn, h.vn, h.s0, by have := h.s1; omega, by have := h.len; omega⟩, t17⟩
  · have h1 := f4 j hj
    have h2 := heap_lt h.rq.blk
    omega
  · have h1 := f4 j hj
    have h2 := h.rq.row.lt j e
    omega
def BoxO (w : World) (g : Nat) (x : OpE) : Prop := w.heap[g]? = some (.cells #[.int .i64 x.kind, .string x.key, .int .i64 x.at_] 30 (0, 0))
theorem BoxO.cells {w : World} {g : Nat} {x : OpE} (h : BoxO w g x) : w.cell? ⟨g, 0, none⟩ = some (.int .i64 x.kind) ∧ w.cell? ⟨g, 1, none⟩ = some (.string x.key) ∧ w.cell? ⟨g, 2, none⟩ = some (.int .i64 x.at_) :=
  ⟨(cell_of h 0).trans rfl, (cell_of h 1).trans rfl, (cell_of h 2).trans rfl⟩
theorem BoxO.touch {w w' : World} {g : Nat} {x : OpE} (h : BoxO w g x) {S : List Nat} (t : Touch S w w') (hs : g ∉ S) : BoxO w' g x := (t.block g (heap_lt h) hs).trans h
theorem BoxO.put {w : World} {g : Nat} {x : OpE} (h : BoxO w g x) (y : OpE) : BoxO (((w.setCell ⟨g, 0, none⟩ (.int .i64 y.kind)).setCell ⟨g, 1, none⟩ (.string y.key)).setCell ⟨g, 2, none⟩ (.int .i64 y.at_)) g y :=
  (block_set (block_set (block_set h _) _) _).trans rfl
def oz : OpE := ⟨0, ⟨#[]⟩, 0⟩
def spoiltB : ByteArray := ⟨#[115, 112, 111, 105, 108, 116]⟩
theorem gSp : goodS spoiltB := by show (6 : Nat) ≤ maxLen; simp [maxLen]
set_option maxRecDepth 8000 in
set_option maxHeartbeats 32000000 in
theorem ExpiryPlays_walk (w : World) (A : Option Addr) (n cp : Nat) (l : List OpE) (hA : RowG opEC 3 w A n l) : Calls Try.prog 3 #[.slice A n cp] w fun e w' => e = .returned (.bool true) ∧ Below w.heap.size w w' := by
  have HA := Lib.hid hA
  have HNEW := Lib.hid (new_qs w)
  have huo := Try.underlying30
  clear hA
  go_enter Try.func3, Try.ntmps3
  repeat (first | go_step3 | go_values | go_skip | go_guarded | go_step | go_upon)
  (go_at_call 8; refine HNEW.out.mono ?_; rintro e w1 ⟨p, rfl, mb, hv0, q0⟩; have Q0 := Lib.hid q0; clear q0; dsimp only)
  repeat (first | go_step3 | go_values | go_skip | go_guarded | go_step | go_upon)
  have P0 : Hid (PlI w (w1.alloc (.cells #[.slice none 0 0] 28)) p mb hv0 w1.heap.size (.slice none 0 0) [] 0 0) := Lib.hid ⟨Q0.out.below ((Touch.refl [] w1).alloc _).toBelow, ⟨heap_alloc_new w1 _, RowR.nil _⟩, fun j hj => ⟨by have := Q0.out.q.foot_lt j hj; omega, by simp [Value.ownBlock]⟩, Q0.out.b.size, fun i h => (by cases h), by omega, by omega, by simp⟩
  generalize (w1.alloc (.cells #[.slice none 0 0] 28)) = w2 at *
  generalize w1.heap.size = r at *
  go_loopw [3, 5] (fun qv i wr => ∃ (k p mb : Nat) (hv : Value) (rv : Value) (L : List It) (sets : Int), qv = .pointer (some ⟨p, 0, none⟩) ∧ i = .int .i64 k ∧ k ≤ n ∧ k ≤ 60 ∧ Hid (PlI w wr p mb hv r rv L sets k)) (fun _ i _ => n - (intOf i).toNat)
  case atStart => exact ⟨0, p, mb, hv0, _, [], 0, rfl, rfl, Nat.zero_le _, by omega, P0⟩
  clear P0 Q0 HNEW
  case round =>
    obtain ⟨k, p, mb, hv, rv, L, sets, rfl, rfl, hk, hk60, HP⟩ := hrel
    by_cases hlt : k < n ∧ k < 60
    case neg =>
      have hor : ¬ (k : Int) < n ∨ ((k : Int) < n ∧ ¬ (k : Int) < 60) := by omega
      clear hlt
      rcases hor with hge | ⟨hge, hge2⟩
      all_goals
        repeat (first | go_step3 | go_values | go_skip | go_guarded | go_step | go_upon)
        (go_at_call 23; refine (known_any _).mono ?_; rintro e w13 ⟨rfl, b13⟩; have Q13 := Lib.hid (HP.out.q.below b13); clear b13; dsimp only)
        repeat (first | go_step3 | go_values | go_skip | go_guarded | go_step | go_upon)
        go_ret
        exact ⟨rfl, Q13.out.b⟩
    case pos =>
      obtain ⟨hlt, hlt40⟩ := hlt
      have hki : (k : Int) < n := by omega
      have hk0 : (0 : Int) ≤ k := by omega
      have hki4 : (k : Int) < 60 := by omega
      obtain ⟨g, o, x, hAe, hgl, hxj, hxm, htk, hcell⟩ := (HA.out.below HP.out.q.b).at hlt
      have cx0 : wr.cell? ⟨g, o + k * 3, none⟩ = some (.int .i64 x.kind) := hcell 0 _ rfl
      have cx1 : wr.cell? ⟨g, o + k * 3 + 1, none⟩ = some (.string x.key) := hcell 1 _ rfl
      have cx2 : wr.cell? ⟨g, o + k * 3 + 2, none⟩ = some (.int .i64 x.at_) := hcell 2 _ rfl
      have HAe := Lib.hid hAe
      subst hAe
      have HLT := Lib.hid (And.intro hlt hlt40)
      clear hgl hxj hxm htk hcell hlt hlt40
      repeat ((fail_if_success (with_reducible refine gate_dst (N := 35) rfl ?_)); first | ((with_reducible refine gate_dst (N := 6) rfl ?_); refine box_event ?hg (N := 6) ?hd (cs := #[.int .i64 0, .string (⟨#[]⟩ : ByteArray), .int .i64 0]) (t := 30) ?hr ?_; (case hd => rfl); (case hg => rfl); (case hr => first | (go_simp; done) | (go_simp; rfl)); intro gb hgb w4 hbox hb; have HB4 := Lib.hid hb; have BK4 := Lib.hid (show BoxO w4 gb oz from hbox); have GE4 := Lib.hid hgb; have hy0 := BK4.out.cells.1; have hy1 := BK4.out.cells.2.1; have hy2 := BK4.out.cells.2.2; have hf0 := frozen_of BK4.out 0; have hf1 := frozen_of BK4.out 1; have hf2 := frozen_of BK4.out 2; clear hb hbox hgb) | go_step3 | go_values | go_skip | go_guarded | go_step | go_upon)
      have HBX := Lib.hid (BK4.out.put x)
      have HB5 := Lib.hid (((HB4.out.setCell (p := ⟨gb, 0, none⟩) (Nat.le_of_eq GE4.out.symm) (.int .i64 x.kind)).setCell (p := ⟨gb, 1, none⟩) (Nat.le_of_eq GE4.out.symm) (.string x.key)).setCell (p := ⟨gb, 2, none⟩) (Nat.le_of_eq GE4.out.symm) (.int .i64 x.at_))
      generalize (((w4.setCell ⟨gb, 0, none⟩ (.int .i64 x.kind)).setCell ⟨gb, 1, none⟩ (.string x.key)).setCell ⟨gb, 2, none⟩ (.int .i64 x.at_)) = w5 at *
      have HP5 := Lib.hid (HP.out.below HB5.out)
      have HGB : Hid ((∀ j ∈ Foot p mb hv, j ≠ gb) ∧ r ≠ gb ∧ gb < w5.heap.size) := Lib.hid ⟨fun j hj => by have := HP.out.q.q.foot_lt j hj; have := GE4.out; omega, by have := heap_lt HP.out.rq.blk; have := GE4.out; omega, heap_lt HBX.out⟩
      clear hy0 hy1 hy2 hf0 hf1 hf2 cx0 cx1 cx2 HB4 BK4
      obtain ⟨b0, b1, b2⟩ := HBX.out.cells
      obtain ⟨xkind, xkey, xat⟩ := x
      dsimp only at b0 b1 b2
      by_cases hbig : xkey.size ≤ 100
      case neg =>
        have hbi : (100 : Int) < (xkey.size : Int) := by omega
        clear hbig
        repeat (first | go_step3 | go_values | go_skip | go_guarded | go_step | go_upon)
        try go_roundw
        case rel => exact ⟨k + 1, p, mb, hv, rv, L, sets, rfl, by go_num, HLT.out.1, HLT.out.2, Lib.hid ⟨HP5.out.q, HP5.out.rq, HP5.out.n, HP5.out.rn, HP5.out.vn, HP5.out.s0, by have := HP5.out.s1; omega, by have := HP5.out.len; omega⟩⟩
        case measure => have := HLT.out; simp [intOf]; omega
      case pos =>
      have hbi : ¬ (100 : Int) < (xkey.size : Int) := by omega
      have HGK := Lib.hid (good100 hbig)
      clear hbig
      have hor : xkind = 0 ∨ xkind = 1 ∨ xkind = 2 ∨ (xkind ≠ 0 ∧ xkind ≠ 1 ∧ xkind ≠ 2) := by omega
      rcases hor with rfl | rfl | rfl | ⟨hn0, hn1, hn2⟩
      case' inl =>
        have HSL := Lib.hid (S1_len L sets xkey xat)
        have HS1 := Lib.hid (set_gen (w1 := w5.drew) (HP5.out.below ((Touch.refl [] w5).drew.toBelow)).q xkey HGK.out xat HP5.out.s0 (by have := HP5.out.s1; omega) (by have := HP5.out.len; omega))
        have HPD := Lib.hid (HP5.out.below ((Touch.refl [] w5).drew.toBelow))
        have HPD := Lib.hid (HP5.out.below ((Touch.refl [] w5).drew.toBelow))
        have HBD : Hid (BoxO w5.drew gb ⟨0, xkey, xat⟩) := HBX
        have b1d := HBD.out.cells.2.1
        have b2d := HBD.out.cells.2.2
        have HGB2 : Hid (w5.drew.heap.size = w5.heap.size) := Lib.hid rfl
        obtain ⟨ev, hev⟩ : ∃ q, q = errN xat := ⟨_, rfl⟩
        have HRS : Hid (∀ (W : World) (v : Value), RQ W r v L → Calls Try.prog 10 #[.pointer (some ⟨r, 0, none⟩), .string xkey, .int .i64 xat] W (RSetP W r v L sets xkey xat)) := Lib.hid (fun W v h => rset_any h (by have := HP5.out.len; omega) xkey xat sets)
        unfold SetG at HS1
        unfold RSetP at HRS
        rw [← hev] at HS1 HRS
        have hne : (ev != ev) = false := by simp
        clear hev
        repeat (first | go_step3 | go_values | go_skip | go_guarded | go_step | go_upon)
        clear b0 b1 b2
        go_region_held3 (fun W' => W'.cell? ⟨gb, 1, none⟩ = some (.string xkey) ∧ W'.cell? ⟨gb, 2, none⟩ = some (.int .i64 xat)) (go_keep)
          (first
            | (go_at_call 9; refine HS1.out.mono ?_; rintro e w6 ⟨rfl, hv6, q6, t6, f6⟩; have Q6 := Lib.hid q6; have T6 := Lib.hid t6; have F6 := Lib.hid f6; have R6 := Lib.hid (HPD.out.mid t6); have X6 := Lib.hid (HBD.out.touch t6 (fun hm => HGB.out.1 _ hm rfl)); have e1 := X6.out.cells.2.1; have e2 := X6.out.cells.2.2; clear q6 t6 f6)
            | (go_at_call 10; refine (HRS.out _ _ R6.out).mono ?_; rintro e w7 ⟨rfl, rv7, r7, t7, n7⟩; have HPF := Lib.hid (HPD.out.both (k' := k + 1) Q6.out T6.out F6.out r7 t7 n7 (by have := HSL.out; have := HP5.out.s0; omega) (by have := HSL.out; have := HP5.out.s1; omega) (by have := HSL.out; have := HP5.out.len; omega)); have XF := Lib.hid (X6.out.touch t7 (by have := HGB.out.2.1; simp; omega)); have e3 := XF.out.cells.2.1; have e4 := XF.out.cells.2.2; clear r7 t7 n7))
        clear b1d b2d e1 e2 e3 e4
        try dsimp only
      case' inr.inl =>
        have HDQ := Lib.hid (drop_qs (w1 := w5.drew) (HP5.out.below ((Touch.refl [] w5).drew.toBelow)).q xkey HGK.out)
        have HPD := Lib.hid (HP5.out.below ((Touch.refl [] w5).drew.toBelow))
        have HBD : Hid (BoxO w5.drew gb ⟨1, xkey, xat⟩) := HBX
        have b1d := HBD.out.cells.2.1
        have b2d := HBD.out.cells.2.2
        obtain ⟨ev, hev⟩ : ∃ q, q = hasL L xkey := ⟨_, rfl⟩
        have HRS : Hid (∀ (W : World) (v : Value), RQ W r v L → Calls Try.prog 12 #[.pointer (some ⟨r, 0, none⟩), .string xkey] W (RDropP W r L xkey)) := Lib.hid (fun W v h => rdrop_any h (by have := HP5.out.len; omega) xkey)
        unfold DropS at HDQ
        unfold RDropP at HRS
        rw [← hev] at HDQ HRS
        have hne : (ev != ev) = false := by simp
        have HDL : Hid ((dropL L xkey).length ≤ L.length) := Lib.hid (List.length_filter_le _ _)
        clear hev
        repeat (first | go_step3 | go_values | go_skip | go_guarded | go_step | go_upon)
        clear b0 b1 b2
        go_region_held3 (fun W' => W'.cell? ⟨gb, 1, none⟩ = some (.string xkey) ∧ W'.cell? ⟨gb, 2, none⟩ = some (.int .i64 xat)) (go_keep)
          (first
            | (go_at_call 11; refine HDQ.out.mono ?_; rintro e w6 ⟨rfl, hv6, q6, f6, t6⟩; have Q6 := Lib.hid q6; have T6 := Lib.hid t6; have F6 := Lib.hid f6; have R6 := Lib.hid (HPD.out.mid t6); have X6 := Lib.hid (HBD.out.touch t6 (fun hm => HGB.out.1 _ hm rfl)); have e1 := X6.out.cells.2.1; have e2 := X6.out.cells.2.2; clear q6 t6 f6)
            | (go_at_call 12; refine (HRS.out _ _ R6.out).mono ?_; rintro e w7 ⟨rfl, rv7, r7, t7, n7⟩; have HPF := Lib.hid (HPD.out.both (k' := k + 1) Q6.out T6.out (fun j hj => .inl (by rw [F6.out] at hj; exact hj)) r7 t7 (fun i hi => .inr (n7 i hi)) HP5.out.s0 (by have := HP5.out.s1; omega) (by have := HDL.out; have := HP5.out.len; omega)); have XF := Lib.hid (X6.out.touch t7 (by have := HGB.out.2.1; simp; omega)); have e3 := XF.out.cells.2.1; have e4 := XF.out.cells.2.2; clear r7 t7 n7))
        clear b1d b2d e1 e2 e3 e4
        try dsimp only
      case' inr.inr.inl =>
        have HDQ := Lib.hid (due_qs2 (w1 := w5.drew) (HP5.out.below ((Touch.refl [] w5).drew.toBelow)).q xat)
        have HPD := Lib.hid (HP5.out.below ((Touch.refl [] w5).drew.toBelow))
        have HBD : Hid (BoxO w5.drew gb ⟨2, xkey, xat⟩) := HBX
        have b1d := HBD.out.cells.2.1
        have b2d := HBD.out.cells.2.2
        have HRS : Hid (∀ (W : World) (v : Value), RQ W r v L → Calls Try.prog 15 #[.pointer (some ⟨r, 0, none⟩), .int .i64 xat] W (RDueP W r L xat)) := Lib.hid (fun W v h => rdue_any h (by have := HP5.out.len; omega) HP5.out.q.q.ord xat)
        have HDL : Hid ((L.dropWhile (soon xat)).length ≤ L.length ∧ (keysL (L.takeWhile (soon xat))).length ≤ L.length) := Lib.hid ⟨(List.dropWhile_sublist _).length_le, by unfold keysL; rw [List.length_map]; exact (List.takeWhile_sublist _).length_le⟩
        repeat (first | go_step3 | go_values | go_skip | go_guarded | go_step | go_upon)
        clear b0 b1 b2
        go_region_held3 (fun W' => W'.cell? ⟨gb, 1, none⟩ = some (.string xkey) ∧ W'.cell? ⟨gb, 2, none⟩ = some (.int .i64 xat)) (go_keep)
          (first
            | (go_at_call 14; refine HDQ.out.mono ?_; rintro e w6 ⟨v6, rfl, hv6, q6, r6, n6, f6, t6⟩; have Q6 := Lib.hid q6; have T6 := Lib.hid t6; have F6 := Lib.hid f6; have R6 := Lib.hid (HPD.out.mid t6); have V6 := Lib.hid r6; have N6 := Lib.hid n6; have X6 := Lib.hid (HBD.out.touch t6 (fun hm => HGB.out.1 _ hm rfl)); have e1 := X6.out.cells.2.1; have e2 := X6.out.cells.2.2; clear q6 r6 n6 t6 f6)
            | (go_at_call 15; refine (HRS.out _ _ R6.out).mono ?_; rintro e w7 ⟨v7, rfl, rv7, r7, u7, t7, n7, m7⟩; have HPF0 := Lib.hid (HPD.out.both (k' := k + 1) Q6.out T6.out (fun j hj => .inl (by rw [F6.out] at hj; exact hj)) r7 t7 (fun i hi => .inr (n7 i hi)) HP5.out.s0 (by have := HP5.out.s1; omega) (by have := HDL.out; have := HP5.out.len; omega)); have XF0 := Lib.hid (X6.out.touch t7 (by have := HGB.out.2.1; simp; omega)); have V7 := Lib.hid (V6.out.touch t7 (fun i hi hm => by have h1 := N6.out i hi; have h2 := heap_lt HPD.out.rq.blk; simp at hm; omega)); have HTX := Lib.hid (texts_any V7.out u7 (by have := HDL.out; have := HP5.out.len; omega)); have e3 := XF0.out.cells.2.1; have e4 := XF0.out.cells.2.2; clear r7 u7 t7 n7 m7)
            | (go_at_call 13; refine HTX.out.mono ?_; rintro e w8 ⟨rfl, b8⟩; have HPF := Lib.hid (HPF0.out.below b8); have XF := Lib.hid (XF0.out.touch (Touch.of_below b8) (by simp)); have e5 := XF.out.cells.2.1; have e6 := XF.out.cells.2.2; clear b8))
        clear b1d b2d e1 e2 e3 e4 e5 e6
        try simp only [decide_true]
        try dsimp only
      case' inr.inr.inr =>
        have h0 : (xkind == 0) = false := by rw [beq_eq_false_iff_ne]; exact hn0
        have h1 : (xkind == 1) = false := by rw [beq_eq_false_iff_ne]; exact hn1
        have h2 : (xkind == 2) = false := by rw [beq_eq_false_iff_ne]; exact hn2
        have HCP := Lib.hid (copy_qs HP5.out.q)
        repeat (first | go_step3 | go_values | go_skip | go_guarded | go_step | go_upon)
        (go_at_call 16; refine HCP.out.mono ?_; rintro e w6 ⟨p6, rfl, mb6, hv6, q6, f6, b6⟩; have Q6 := Lib.hid q6; have F6 := Lib.hid f6; have B6 := Lib.hid b6; have P6 := Lib.hid (HP5.out.below b6); clear q6 f6 b6; dsimp only)
        have HST := Lib.hid (set_gen P6.out.q spoiltB gSp 1 P6.out.s0 (by have := P6.out.s1; omega) (by have := P6.out.len; omega))
        repeat (first | go_step3 | go_values | go_skip | go_guarded | go_step | go_upon)
        (go_at_call 9; refine HST.out.mono ?_; rintro e w7 ⟨rfl, hv7, q7, t7, f7⟩; have Q7 := Lib.hid q7; have T7 := Lib.hid t7; have F7 := Lib.hid f7; clear q7 t7 f7; dsimp only)
        have HDU := Lib.hid (due_qs2 Q7.out 1099511627776)
        repeat (first | go_step3 | go_values | go_skip | go_guarded | go_step | go_upon)
        (go_at_call 14; refine HDU.out.mono ?_; rintro e w8 ⟨v8, rfl, hv8, q8, r8, n8, f8, t8⟩; have HCF := Lib.hid (HP5.out.copy Q6.out F6.out B6.out T7.out F7.out t8); have XF := Lib.hid (HBX.out.touch HCF.out.2 (fun hm => HGB.out.1 _ hm rfl)); have HPF := Lib.hid HCF.out.1; clear q8 r8 n8 f8 t8; dsimp only)
        clear b0 b1 b2
      all_goals
        obtain ⟨z0, z1, z2⟩ := XF.out.cells
        have HA1 := Lib.hid (at_ql HPF.out.q.q xkey HGK.out)
        have HA2 := Lib.hid (rat_any HPF.out.rq (by have := HPF.out.len; omega) xkey)
        have HN1 := Lib.hid (next_ql HPF.out.q.q)
        have HN2 := Lib.hid (rnext_any HPF.out.rq (by have := HPF.out.len; omega))
        have HK1 := Lib.hid (ekeys_any HPF.out.q.q)
        have HLE := Lib.hid HPF.out.len
        have HK2 := Lib.hid (fun (W : World) (t : Touch [] _ W) => rkeys_any (HPF.out.rq.kept0 t) (by have := HPF.out.len; omega))
        have HQT := Lib.hid HPF.out.q
        generalize (atT _ xkey).1 = y1 at HA1 HA2
        generalize (atT _ xkey).2 = y2 at HA1 HA2
        generalize (nextT _).1 = y3 at HN1 HN2
        generalize (nextT _).2 = y4 at HN1 HN2
        have g1 : (y1 != y1) = false := by simp
        have g2 : (y2 != y2) = false := by simp
        have g3 : (y3 != y3) = false := by simp
        have g4 : (y4 != y4) = false := by simp
        repeat (first | go_step3 | go_values | go_skip | go_guarded | go_step | go_upon)
        (go_at_call 17; refine HA1.out.mono ?_; rintro e w8 ⟨rfl, rfl⟩; dsimp only)
        repeat (first | go_step3 | go_values | go_skip | go_guarded | go_step | go_upon)
        (go_at_call 18; refine HA2.out.mono ?_; rintro e w8 ⟨rfl, rfl⟩; dsimp only)
        repeat (first | go_step3 | go_values | go_skip | go_guarded | go_step | go_upon)
        (go_at_call 19; refine HN1.out.mono ?_; rintro e w8 ⟨rfl, rfl⟩; dsimp only)
        repeat (first | go_step3 | go_values | go_skip | go_guarded | go_step | go_upon)
        (go_at_call 20; refine HN2.out.mono ?_; rintro e w8 ⟨rfl, rfl⟩; dsimp only)
        repeat (first | go_step3 | go_values | go_skip | go_guarded | go_step | go_upon)
        (go_at_call 21; refine HK1.out.mono ?_; rintro e w9 ⟨v9, rfl, r9, b9, n9⟩; have R9 := Lib.hid r9; have B9 := Lib.hid b9; clear r9 b9 n9; dsimp only)
        repeat (first | go_step3 | go_values | go_skip | go_guarded | go_step | go_upon)
        (go_at_call 22; refine (HK2.out _ (Touch.of_below B9.out)).mono ?_; rintro e w10 ⟨v10, rfl, r10, b10, n10⟩; have R10 := Lib.hid r10; have B10 := Lib.hid b10; clear r10 b10 n10; dsimp only)
        have HT10 := Lib.hid (texts_any (R9.out.below B10.out) R10.out (by unfold keysL; rw [List.length_map]; have := HLE.out; omega))
        simp only [decide_true] at HT10
        repeat (first | go_step3 | go_values | go_skip | go_guarded | go_step | go_upon)
        (go_at_call 13; refine HT10.out.mono ?_; rintro e w11 ⟨rfl, b11⟩; have HPE := Lib.hid (((HPF.out.below B9.out).below B10.out).below b11); clear b11; dsimp only)
        repeat (first | go_step3 | go_values | go_skip | go_guarded | go_step | go_upon)
        try go_roundw
        case rel => exact ⟨k + 1, _, _, _, _, _, _, rfl, by go_num, HLT.out.1, HLT.out.2, HPE⟩
        case measure => have := HLT.out; simp [intOf]; omega
theorem plays_row {w : World} {m base : Nat} {v : Value} (hv : Value.okWide Try.prog w .any base 22 v) (h : Rd Try.prog w m 22 v.cells.toList) : Calls Try.prog 3 #[v] w fun e w' => e = .returned (.bool true) ∧ Below w.heap.size w w' := by
  obtain ⟨A, n, cp, l, rfl, h1, _⟩ := ops_arg hv h
  exact ExpiryPlays_walk w A n cp l h1
end Go.Proofs.Ythafopnaecbjdaa
