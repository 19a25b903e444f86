/- A gauge's New: bounds that rise make a gauge without numbers. -/
import Derived.Test.YtmgcmheiabmajaaGa6
namespace Go.Proofs.Ytmgcmheiabmajaa
open Go Go.RowKit Go.Proofs.Ytmgcmheiabmajaa.Pa Go.Proofs.YtmgcmheiabmajaaW.PrintWords Go.Proofs.YtmgcmheiabmajaaW.PrintLast

def kB : Kd SB := Kd.iso (Kd.pair (Kd.int .i64) (Kd.int .i64)) (fun x : SB => (x.b, x.c))
theorem kB_mkM (w : World) (base : Nat) (ok : Nat → Prop) (x : SB) : kB.M w base ok x [.int .i64 x.b, .int .i64 x.c] := ⟨[.int .i64 x.b], [.int .i64 x.c], rfl, rfl, rfl⟩
theorem kB_openM {w : World} {base : Nat} {ok : Nat → Prop} {x : SB} {cs : List Value} (h : kB.M w base ok x cs) : cs = [.int .i64 x.b, .int .i64 x.c] := by
  obtain ⟨_, _, rfl, rfl, rfl⟩ := h
  rfl
/-! rising -/
theorem rd_at (l : List Int) (i : Nat) (h : i < l.length) : rd l (i : Int) = l[i] := by
  unfold rd
  first | rw [rdOf_at] | skip
  rw [Int.toNat_natCast, List.getD_eq_getElem?_getD, List.getElem?_eq_getElem h]
  rfl
def risB : List Int → Bool
  | a :: b :: r => decide (a < b) && risB (b :: r)
  | _ => true
theorem risB_iff : ∀ l : List Int, risB l = true ↔ l.Pairwise (· < ·)
  | [] => by simp [risB]
  | [a] => by simp [risB]
  | a :: b :: r => by
    have ih := risB_iff (b :: r)
    unfold risB
    rw [Bool.and_eq_true, ih, decide_eq_true_iff]
    constructor
    · intro ⟨h1, h2⟩
      refine List.pairwise_cons.2 ⟨fun x hx => ?_, h2⟩
      rcases List.mem_cons.1 hx with rfl | hx
      · exact h1
      · exact Int.lt_trans h1 ((List.pairwise_cons.1 h2).1 x hx)
    · intro h
      obtain ⟨h1, h2⟩ := List.pairwise_cons.1 h
      exact ⟨h1 b List.mem_cons_self, h2⟩
theorem rising_l (l : List Int) (hn : l.length ≤ 100000) : ∀ (m k i : Nat), i + m = l.length → m < k → 1 ≤ i → gauge_rising_int.l0 k l (i : Int) = some (risB (l.drop (i - 1))) := by
  intro m
  induction m with
  | zero =>
    intro k i hi hk h1
    obtain ⟨k, rfl⟩ : ∃ j, k = j + 1 := ⟨k - 1, by omega⟩
    unfold gauge_rising_int.l0
    rw [if_neg (by omega), List.drop_eq_getElem_cons (by omega), List.drop_of_length_le (by omega)]
    rfl
  | succ m ih =>
    intro k i hi hk h1
    obtain ⟨k, rfl⟩ : ∃ j, k = j + 1 := ⟨k - 1, by omega⟩
    have hlt : i < l.length := by omega
    have hw : wrap64 ((i : Int) - 1) = ((i - 1 : Nat) : Int) := by unfold wrap64; omega
    have hw2 : wrap64 ((i : Int) + 1) = ((i + 1 : Nat) : Int) := by unfold wrap64; omega
    have hd : l.drop (i - 1) = l[i - 1] :: l[i] :: l.drop (i + 1) := by
      rw [List.drop_eq_getElem_cons (by omega), show i - 1 + 1 = i by omega, List.drop_eq_getElem_cons hlt]
    have hd2 : l.drop (i + 1 - 1) = l[i] :: l.drop (i + 1) := by rw [show i + 1 - 1 = i by omega, List.drop_eq_getElem_cons hlt]
    unfold gauge_rising_int.l0
    rw [if_pos (by omega), hw, if_pos (by omega), if_pos (by omega), if_pos (by omega), rd_at l (i - 1) (by omega), rd_at l i hlt, hw2, ih k (i + 1) (by omega) (by omega) (by omega), hd, hd2]
    show _ = some (decide (l[i - 1] < l[i]) && risB (l[i] :: l.drop (i + 1)))
    by_cases hge : l[i - 1] ≥ l[i]
    · rw [if_pos hge, decide_eq_false (by omega)]
      rfl
    · rw [if_neg hge, decide_eq_true (by omega)]
      rfl
theorem rising_f (l : List Int) (hn : l.length ≤ 100000) (k : Nat) (hk : l.length + 2 < k) : gauge_rising_int.f k l = some (risB l) := by
  unfold gauge_rising_int.f
  by_cases h : l.length = 0
  · obtain ⟨k, rfl⟩ : ∃ j, k = j + 1 := ⟨k - 1, by omega⟩
    obtain rfl := List.length_eq_zero_iff.1 h
    rfl
  · exact rising_l l hn (l.length - 1) k 1 (by omega) (by omega) (Nat.le_refl _)
/-! New -/
def Good (l : List Int) : Prop := 0 < l.length ∧ l.length ≤ 100 ∧ l.Pairwise (· < ·) ∧ ¬ rd l 0 < 0 ∧ ¬ 1099511627776 < rd l ((l.length : Int) - 1)
def initL (l : List Int) : List SB := l.map (fun b => ⟨b, 0⟩) ++ [⟨1152921504606846976, 0⟩]
section
variable {w : World} {A : Option Addr} {c : Nat} {l : List Int}
set_option maxHeartbeats 2000000 in
theorem new_bad (hr : Kd.C (Kd.int .i64) w A l.length l) (hc : l.length ≤ c) (hb : ¬ Good l) : Calls Try.prog 7 #[.slice A l.length c] w fun e w' => e = .returned (.tuple #[.pointer none, .int .i64 1]) ∧ Below w.heap.size w w' := by
  have HC := Lib.hid hr
  have HCC := Lib.hid hc
  obtain ⟨n, hn⟩ : ∃ n, n = l.length := ⟨_, rfl⟩
  have HL := Lib.hid hn
  have HBAD := Lib.hid hb
  clear hb hc
  rw [← hn]
  go_enter Try.func7, Try.ntmps7
  by_cases h0 : n = 0
  · have h0i : ((n : Int) == 0) = true := by rw [h0]; rfl
    clear hr hn
    repeat (first | go_step3 | go_values | go_skip | go_guarded | go_step | go_upon)
    go_ret2
    exact ⟨rfl, Below.refl _ _⟩
  have h0i : ((n : Int) == 0) = false := by rw [beq_eq_false_iff_ne]; omega
  by_cases h1 : 100 < n
  · have h1i : (100 : Int) < n := by omega
    clear hr hn
    repeat (first | go_step3 | go_values | go_skip | go_guarded | go_step | go_upon)
    go_ret2
    exact ⟨rfl, Below.refl _ _⟩
  have h1i : ¬ (100 : Int) < n := by omega
  have hri := fun w hr => gauge_rising_int.calls 200 A c l (risB l) w hr HCC.out (rising_f l (by omega) 200 (by omega))
  rw [← hn] at hri
  have HRI := Lib.hid hri
  rw [hn] at h0
  have hn0 : n ≠ 0 := by omega
  have hpos : 0 < l.length := by omega
  obtain ⟨ad, hA, g0⟩ := Kd.at_int hr 0 (Int.le_refl 0) (by omega)
  obtain ⟨ad', hA', g1⟩ := Kd.at_int hr ((l.length : Int) - 1) (by omega) (by omega)
  obtain rfl : ad = ad' := by rw [hA] at hA'; exact Option.some.inj hA'
  subst hA
  rw [← hn] at g1
  have hr' := hr
  rw [← hn] at hr'
  have HC2 := Lib.hid hr'
  have hn4 : (0 : Int) ≤ (n : Int) - 1 := by omega
  have hn5 : (n : Int) - 1 < n := by omega
  have hn6 : (0 : Int) < n := by omega
  have HBAD2 : Hid (risB l = true → ¬ rd l 0 < 0 → 1099511627776 < rd l ((n : Int) - 1)) := Lib.hid (fun a b => by
    rcases Int.lt_or_le 1099511627776 (rd l ((n : Int) - 1)) with h | h
    · exact h
    · exact absurd ⟨hpos, by omega, (risB_iff l).1 a, b, by rw [← hn]; omega⟩ HBAD.out)
  clear hr hn hri hr' h0 hpos
  repeat (first | go_step3 | go_values | go_skip | go_guarded | go_step | go_upon)
  (go_at_call 22; refine (HRI.out _ HC2.out).mono ?_; rintro e w2 ⟨rfl, hd2⟩; have HB2 := Lib.hid hd2.below; have k0 := (hd2.below.cell (p := ad.add (0 : Int).toNat) (World.block_lt_of_cell? _ _ g0)).trans g0; have k1 := (hd2.below.cell (p := ad.add ((n : Int) - 1).toNat) (World.block_lt_of_cell? _ _ g1)).trans g1; clear hd2 g0 g1; dsimp only)
  have ez : ad.add 0 = ad := by unfold Addr.add; split <;> simp_all
  simp only [Int.toNat_zero, ez] at k0
  have em : ((n : Int) - 1).toNat = n - 1 := by omega
  rw [em] at k1
  clear em
  clear ez
  generalize risB l = rb at *
  cases rb with
  | false =>
    clear HBAD2 HRI
    repeat (first | go_step3 | go_values | go_skip | go_guarded | go_step | go_upon)
    go_ret2
    exact ⟨rfl, HB2.out⟩
  | true =>
    generalize rd l 0 = x0 at *
    generalize rd l ((n : Int) - 1) = x1 at *
    by_cases h3 : x0 < 0
    · clear HBAD2 HRI
      repeat (first | go_step3 | go_values | go_skip | go_guarded | go_step | go_upon)
      go_ret2
      exact ⟨rfl, HB2.out⟩
    · have h4 := HBAD2.out rfl h3
      clear HBAD2 HRI
      repeat (first | go_step3 | go_values | go_skip | go_guarded | go_step | go_upon)
      go_ret2
      exact ⟨rfl, HB2.out⟩
def mk0 (b : Int) : SB := ⟨b, 0⟩
theorem new_blk {W w1 : World} {gp : Nat} {v : Value} {L : List SB} {base : Nat} {ok : Nat → Prop} {t s : Value} (h : W.heap[gp]? = some (.cells #[v, t, s] 48 (0, 0))) (hr : kB.R 50 W base ok v L) (hg : W.grownBy w1 v.ownBlock) : w1.heap[gp]? = some (.cells #[v, t, s] 48 (0, 0)) :=
  (hg.block gp (heap_lt h) (Kd.R_ne hr h (by decide))).trans h
theorem GA.of_R {w : World} {p base : Nat} {L : List SB} {t s : Int} {v : Value} {ok : Nat → Prop} (h : kB.R 50 w base ok v L) (hb : w.heap[p]? = some (.cells #[v, .int .i64 t, .int .i64 s] 48 (0, 0))) (hf : 0 < L.length ∧ L.length ≤ 101) : ∃ g cp, GA w p g cp L t s ∧ base ≤ g := by
  obtain ⟨g, cp, hv, hg, _, cells, hcl⟩ := Kd.R_form h hf.1
  obtain ⟨A, c, hv2, hle, hC⟩ := Kd.R_reads h
  obtain ⟨rfl, rfl⟩ : A = some ⟨g, 0, none⟩ ∧ c = cp := by rw [hv] at hv2; cases hv2; exact ⟨rfl, rfl⟩
  subst hv
  refine ⟨g, c, ⟨hb, ⟨cells, hcl, fun j x hj => ?_⟩, hle, hf⟩, hg⟩
  obtain ⟨ad, e, hx⟩ := hC.2.2 hf.1
  cases e
  obtain ⟨cs, _, hK, hcc⟩ := hx j x hj
  obtain ⟨_, _, rfl, rfl, rfl⟩ := hK
  have h0 := hcc 0 _ rfl
  have h1 := hcc 1 _ rfl
  rw [add_pl, Nat.zero_add, cell_of hcl] at h0 h1
  exact ⟨h0, h1⟩
def NewP (w : World) (l : List Int) (e : Ending) (w' : World) : Prop := ∃ p b cp, e = .returned (.tuple #[.pointer (some ⟨p, 0, none⟩), .int .i64 0]) ∧ GA w' p b cp (initL l) 0 0 ∧ w.heap.size ≤ p ∧ w.heap.size ≤ b ∧ Below w.heap.size w w'
set_option maxHeartbeats 4000000 in
theorem new_ok (hr : Kd.C (Kd.int .i64) w A l.length l) (hc : l.length ≤ c) (hb : Good l) : Calls Try.prog 7 #[.slice A l.length c] w (NewP w l) := by
  have HCC := Lib.hid hc
  obtain ⟨n, hn⟩ : ∃ n, n = l.length := ⟨_, rfl⟩
  have HL := Lib.hid hn
  obtain ⟨hpos, hle, hris, hx0, hx1⟩ := hb
  have HRB := (risB_iff l).2 hris
  clear hc hris
  rw [← hn]
  go_enter Try.func7, Try.ntmps7
  have h0i : ((n : Int) == 0) = false := by rw [beq_eq_false_iff_ne]; omega
  have h1i : ¬ (100 : Int) < n := by omega
  have hri := fun w hr => gauge_rising_int.calls 200 A c l (risB l) w hr HCC.out (rising_f l (by omega) 200 (by omega))
  rw [← hn, HRB] at hri
  have HRI := Lib.hid hri
  have hn0 : n ≠ 0 := by omega
  obtain ⟨ad, hA, g0⟩ := Kd.at_int hr 0 (Int.le_refl 0) (by omega)
  obtain ⟨ad', hA', g1⟩ := Kd.at_int hr ((l.length : Int) - 1) (by omega) (by omega)
  obtain rfl : ad = ad' := by rw [hA] at hA'; exact Option.some.inj hA'
  subst hA
  rw [← hn] at g1 hx1
  have HC1 := Lib.hid hr
  have hr' := hr
  rw [← hn] at hr'
  have HC2 := Lib.hid hr'
  have hn4 : (0 : Int) ≤ (n : Int) - 1 := by omega
  have hn5 : (n : Int) - 1 < n := by omega
  have hn6 : (0 : Int) < n := by omega
  have hn7 : n ≤ 100 := by omega
  clear hr hn hri hr' hpos hle HRB
  repeat (first | go_step3 | go_values | go_skip | go_guarded | go_step | go_upon)
  (go_at_call 22; refine (HRI.out _ HC2.out).mono ?_; rintro e w2 ⟨rfl, hd2⟩; have HB2 := Lib.hid hd2.below; have k0 := (hd2.below.cell (p := ad.add (0 : Int).toNat) (World.block_lt_of_cell? _ _ g0)).trans g0; have k1 := (hd2.below.cell (p := ad.add ((n : Int) - 1).toNat) (World.block_lt_of_cell? _ _ g1)).trans g1; clear hd2 g0 g1; dsimp only)
  have ez : ad.add 0 = ad := by unfold Addr.add; split <;> simp_all
  simp only [Int.toNat_zero, ez] at k0
  have em : ((n : Int) - 1).toNat = n - 1 := by omega
  rw [em] at k1
  clear em ez HRI
  generalize rd l 0 = x0 at *
  generalize rd l ((n : Int) - 1) = x1 at *
  repeat ((fail_if_success (with_reducible refine gate_dst (N := 37) rfl ?_)); first | ((with_reducible refine gate_dst (N := 36) rfl ?_); refine box_event ?hg (N := 36) ?hd (cs := #[.slice none 0 0, .int .i64 0, .int .i64 0]) (t := 48) ?hr ?_; (case hd => rfl); (case hg => rfl); (case hr => first | (go_simp; done) | (go_simp; rfl)); intro gp hgb w4 hbox hb; have HB4 := Lib.hid (HB2.out.trans (hb.mono HB2.out.size)); have BK4 := Lib.hid hbox; have GE : Hid (w.heap.size ≤ gp) := Lib.hid (by rw [hgb]; exact HB2.out.size); clear hb hbox hgb) | go_step3 | go_values | go_skip | go_guarded | go_step | go_upon)
  clear k0 k1
  repeat (first | go_step3 | go_values | go_skip | go_guarded | go_step | go_upon)
  go_loopw [39] (fun i wr => ∃ (k : Nat) (va : Value), i = .int .i64 k ∧ k ≤ n ∧ Hid (wr.heap[gp]? = some (.cells #[va, .int .i64 0, .int .i64 0] 48 (0, 0))) ∧ Hid (kB.R 50 wr w.heap.size (fun _ => True) va ((l.take k).map mk0)) ∧ Hid (Below w.heap.size w wr)) (fun i _ => n - (intOf i).toNat)
  case atStart => exact ⟨0, _, rfl, Nat.zero_le _, BK4, Lib.hid (Kd.R_nil _ _ _ _ _), HB4⟩
  case round =>
    obtain ⟨k, va, rfl, hk, BK, HO, HB⟩ := hrel
    have e0 : wr.cell? ⟨gp, 0, none⟩ = some va := (cell_of BK.out 0).trans rfl
    have f0 := frozen_of BK.out 0
    have hl3 : ((l.take k).map mk0).length ≤ 101 := by rw [List.length_map, List.length_take]; omega
    have HL3 := Lib.hid hl3
    clear hl3
    by_cases hlt : k < n
    · have hki : (k : Int) < n := by omega
      have hk0 : (0 : Int) ≤ k := by omega
      have hkn : k < l.length := by have := HL.out; omega
      obtain ⟨y, hy⟩ : ∃ y, y = l[k] := ⟨_, rfl⟩
      obtain ⟨ad2, hA2, cy⟩ := Kd.at_int (Kd.C_below HC1.out HB.out) (k : Int) hk0 (by omega)
      cases hA2
      rw [rd_at l k hkn, ← hy, Int.toNat_natCast] at cy
      have HTK := Lib.hid (show (l.take (k + 1)).map mk0 = (l.take k).map mk0 ++ [mk0 y] by rw [List.take_succ_eq_append_getElem hkn, List.map_append, hy]; rfl)
      have HLT := Lib.hid hlt
      clear hy hkn
      repeat ((fail_if_success (with_reducible refine gate_builtin (b := .append) (xs := #[.tmp 47, .tmp 50]) rfl ?_)); first | go_step3 | go_values | go_skip | go_guarded | go_step | go_upon)
      ((with_reducible refine gate_builtin (b := .append) (xs := #[.tmp 47, .tmp 50]) rfl ?_); at_builtin; refine Kd.R_append kB (w0 := w) w.heap.size rfl (.tmp 47) (.tmp 50) 46 50 (.agg #[.int .i64 0, .int .i64 0]) 16 rfl Try.underlying46 infoB rfl (by decide) (by omega) va ((l.take k).map mk0) (mk0 y) [.int .i64 y, .int .i64 0] (fun _ => True) (fun _ => False) rfl (by first | (go_simp; done) | (go_simp; rfl)) ?aP (fun _ hk => hk.elim) (fun _ _ => trivial) ?aO ?aB ?aS ?aL ?_; (case aP => exact kB_mkM _ _ _ (mk0 y)); (case aB => exact HB.out); (case aO => exact HO.out); (case aS => exact HB.out.size); (case aL => exact (by have := HL3.out; omega)); intro v6 w6 ho hb6 hg6 hat6; obtain ⟨A6, c6, e6⟩ := Kd.R_slice ho; generalize ((l.take k).map mk0 ++ [(mk0 y)]).length = n6 at e6; subst e6; have HO6 := Lib.hid ho; have HB6 := Lib.hid hb6; have BK6 := Lib.hid (new_blk BK.out HO.out hg6); clear ho hb6 hg6 hat6; have e6 : w6.cell? ⟨gp, 0, none⟩ = some va := (cell_of BK6.out 0).trans rfl; have f6 := frozen_of BK6.out 0)
      dsimp only
      repeat (first | go_step3 | go_values | go_skip | go_guarded | go_step | go_upon)
      try go_roundw
      case rel => exact ⟨k + 1, .slice A6 n6 c6, by go_num, HLT.out, Lib.hid ((block_set BK6.out _).trans rfl), Lib.hid (by rw [HTK.out]; exact Kd.R_set HO6.out BK6.out (by decide) 0 _), Lib.hid (HB6.out.setCell (p := ⟨gp, 0, none⟩) GE.out _)⟩
      case measure => have := HLT.out; simp [intOf]; omega
    · have hge : ¬ (k : Int) < n := by omega
      have HTK := Lib.hid (show l.take k = l from List.take_of_length_le (by have := HL.out; omega))
      clear hlt
      repeat ((fail_if_success (with_reducible refine gate_builtin (b := .append) (xs := #[.tmp 59, .tmp 61]) rfl ?_)); first | go_step3 | go_values | go_skip | go_guarded | go_step | go_upon)
      ((with_reducible refine gate_builtin (b := .append) (xs := #[.tmp 59, .tmp 61]) rfl ?_); at_builtin; refine Kd.R_append kB (w0 := w) w.heap.size rfl (.tmp 59) (.tmp 61) 46 50 (.agg #[.int .i64 0, .int .i64 0]) 16 rfl Try.underlying46 infoB rfl (by decide) (by omega) va ((l.take k).map mk0) (mk0 1152921504606846976) [.int .i64 1152921504606846976, .int .i64 0] (fun _ => True) (fun _ => False) rfl (by first | (go_simp; done) | (go_simp; rfl)) ?aP (fun _ hk => hk.elim) (fun _ _ => trivial) ?aO ?aB ?aS ?aL ?_; (case aP => exact kB_mkM _ _ _ (mk0 1152921504606846976)); (case aB => exact HB.out); (case aO => exact HO.out); (case aS => exact HB.out.size); (case aL => exact (by have := HL3.out; omega)); intro v6 w6 ho hb6 hg6 hat6; obtain ⟨A6, c6, e6⟩ := Kd.R_slice ho; generalize ((l.take k).map mk0 ++ [(mk0 1152921504606846976)]).length = n6 at e6; subst e6; have HO6 := Lib.hid ho; have HB6 := Lib.hid hb6; have BK6 := Lib.hid (new_blk BK.out HO.out hg6); clear ho hb6 hg6 hat6; have e6 : w6.cell? ⟨gp, 0, none⟩ = some va := (cell_of BK6.out 0).trans rfl; have f6 := frozen_of BK6.out 0)
      dsimp only
      repeat (first | go_step3 | go_values | go_skip | go_guarded | go_step | go_upon)
      go_ret2
      have hrr : kB.R 50 (w6.setCell ⟨gp, 0, none⟩ (.slice A6 n6 c6)) w.heap.size (fun _ => True) (.slice A6 n6 c6) (initL l) := by
        have := Kd.R_set HO6.out BK6.out (by decide) 0 (.slice A6 n6 c6)
        rw [HTK.out] at this
        exact this
      obtain ⟨g, cp, hG, hgb⟩ := GA.of_R hrr ((block_set BK6.out _).trans rfl) (by unfold initL; rw [List.length_append, List.length_map, List.length_singleton]; have := HL.out; omega)
      exact ⟨gp, g, cp, rfl, hG, GE.out, hgb, HB6.out.setCell (p := ⟨gp, 0, none⟩) GE.out _⟩
end
end Go.Proofs.Ytmgcmheiabmajaa
