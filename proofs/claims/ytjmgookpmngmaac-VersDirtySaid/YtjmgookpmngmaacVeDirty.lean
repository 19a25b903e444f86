/- VersDirty: the walk. -/
import Derived.Test.YtjmgookpmngmaacVeArg
namespace Go.Proofs.Ytjmgookpmngmaac
open Go Go.RowKit Go.Maps Go.WideShapes

/-- A row of bytes among the arguments. -/
structure BytesA (w : World) (A : Option Addr) (n : Nat) (l : List Int) : Prop where
  row : n = l.length ∧ (n = 0 ∨ ∃ g o, A = some ⟨g, o, none⟩ ∧ g < w.heap.size ∧ ∀ j, j < n → w.cell? ⟨g, o + j, none⟩ = some (.int .u8 (l.getD j 0)))
  wf : ∀ x ∈ l, 0 ≤ x ∧ x < 256
  len : n ≤ maxLen
theorem u8_range {n : Int} (h : (Lit.int .u8 n).wf = true) : 0 ≤ n ∧ n < 256 := by
  have e1 : IntKind.min .u8 = 0 := by decide
  have e2 : IntKind.max .u8 = 255 := by decide
  simp only [Lit.wf, e1, e2, Bool.and_eq_true, decide_eq_true_eq] at h
  omega
theorem bytes_of_arg {w : World} {m base : Nat} {v : Value} (hv : Value.okWide Try.prog w .any base 40 v) (h : Rd Try.prog w m 40 v.cells.toList) : ∃ A n cp l, v = .slice A n cp ∧ BytesA w A n l := by
  obtain ⟨A, n, cp, rfl⟩ := Go.WideShapes.okWide_slice Try.underlying40 hv
  rcases h.slice Try.underlying40 with h0 | ⟨a, len, cap, m', h0, hl, hc, _, hx⟩
  · simp [Value.cells] at h0
    obtain ⟨rfl, rfl, rfl⟩ := h0
    exact ⟨none, 0, 0, [], rfl, ⟨rfl, .inl rfl⟩, by simp, by decide⟩
  · simp [Value.cells] at h0
    obtain ⟨rfl, rfl, rfl⟩ := h0
    have c1 : Try.prog.cellsOf 5 = 1 := by kernel_rfl
    rw [c1] at hx
    by_cases hz : n = 0
    · subst hz
      exact ⟨some a, 0, cp, [], rfl, ⟨rfl, .inl rfl⟩, by simp, by decide⟩
    have hK : ∀ i, ∃ x : Int, i < n → w.cell? (a.add (i * 1)) = some (.int .u8 x) ∧ 0 ≤ x ∧ x < 256 := fun i => by
      by_cases hi : i < n
      · obtain ⟨cs', h1, h2⟩ := hx i hi
        obtain ⟨x, rfl, hw⟩ := h2.int Try.underlying5
        obtain ⟨_, _, hcell⟩ := World.cells?_some h1
        exact ⟨x, fun _ => ⟨hcell 0 (by decide), u8_range hw⟩⟩
      · exact ⟨0, fun h => absurd h hi⟩
    obtain ⟨K, hK⟩ := Classical.axiomOfChoice hK
    have h00 := (hK 0 (by omega)).1
    have hblk := World.block_lt_of_cell? w _ h00
    obtain ⟨g, o, rfl⟩ : ∃ g o, a = ⟨g, o, none⟩ := by
      obtain ⟨g, o, sp⟩ := a
      cases sp with
      | none => exact ⟨g, o, rfl⟩
      | some k =>
        have : (⟨g, o, some k⟩ : Addr).add (0 * 1) = ⟨g, o, some k⟩ := by simp [Addr.add]
        rw [this] at h00
        simp only [World.cell?, Option.isSome_some, if_true] at h00
        split at h00 <;> cases h00
    have hadd : ∀ j, (⟨g, o, none⟩ : Addr).add (j * 1) = ⟨g, o + j, none⟩ := fun j => by unfold Addr.add; split <;> simp_all
    refine ⟨some ⟨g, o, none⟩, n, cp, (List.range n).map K, rfl, ⟨by simp, .inr ⟨g, o, rfl, by rw [hadd] at hblk; exact hblk, fun j hj => ?_⟩⟩, fun s hs => ?_, Nat.le_trans hl hc⟩
    · have := (hK j hj).1
      rw [hadd] at this
      rw [this]
      simp [List.getD_eq_getElem?_getD, List.getElem?_map, List.getElem?_range hj]
    · obtain ⟨j, hj, rfl⟩ := List.mem_map.1 hs
      exact (hK j (List.mem_range.1 hj)).2
theorem BytesA.cell {w wr : World} {A : Option Addr} {N B : Nat} {l : List Int} (h : BytesA w A N l) (hB : w.heap.size = B) (t : Below B w wr) {k : Nat} (hk : k < N) :
    ∃ g o, A = some ⟨g, o, none⟩ ∧ g < B ∧ (⟨g, o, none⟩ : Addr).add k = ⟨g, o + k, none⟩ ∧ wr.cell? ⟨g, o + k, none⟩ = some (.int .u8 (l.getD k 0)) ∧ (0 ≤ l.getD k 0 ∧ l.getD k 0 < 256) ∧ l.take (k + 1) = l.take k ++ [l.getD k 0] ∧ l.getD k 0 ∈ l := by
  subst hB
  obtain ⟨h1, h2⟩ := h.row
  have hmem : l.getD k 0 ∈ l := by rw [List.getD_eq_getElem?_getD, List.getElem?_eq_getElem (by omega)]; simp
  rcases h2 with h0 | ⟨g, o, rfl, hg, h2⟩
  · omega
  · exact ⟨g, o, rfl, hg, by unfold Addr.add; split <;> simp_all, (World.cell?_of_block (t.block g hg)).trans (h2 k hk), h.wf _ hmem, take_succ' l k (by omega) _, hmem⟩

def hasI (l : List Int) (x : Int) : Bool := l.any fun y => decide (y = x)
theorem hasI_iff {l : List Int} {x : Int} : hasI l x = true ↔ x ∈ l := by simp [hasI]
theorem hasI_append (l l' : List Int) (x : Int) : hasI (l ++ l') x = (hasI l x || hasI l' x) := by simp [hasI]
theorem hasI_one (y x : Int) : hasI [y] x = decide (y = x) := by simp [hasI]

/-- While they mark. -/
def Mk (M : VA) (names : List ByteArray) (cl : List Int) : Prop := ∀ s c, M.dirty s c = (hasI cl c && hasB names s)
theorem Mk.mark2 {M : VA} {names : List ByteArray} {cl : List Int} (h : Mk M names cl) (c : Int) : Mk ((M.mark c names).mark c names) names (cl ++ [c]) := by
  intro s c'
  simp only [VA.mark, h s c', hasI_append, hasI_one]
  by_cases e : c = c' <;> cases hasI cl c' <;> cases hasB names s <;> simp [e]
theorem Mk.busy {M : VA} {names : List ByteArray} {cl : List Int} (h : Mk M names cl) : (∃ s ∈ names, ∃ c, M.dirty s c = true) ↔ names ≠ [] ∧ cl ≠ [] := by
  constructor
  · rintro ⟨s, hs, c, hc⟩
    rw [h] at hc
    simp only [Bool.and_eq_true] at hc
    have := hasI_iff.1 hc.1
    exact ⟨fun e => (by rw [e] at hs; cases hs), fun e => (by rw [e] at this; cases this)⟩
  · rintro ⟨h1, h2⟩
    obtain ⟨s, hs⟩ := List.exists_mem_of_ne_nil _ h1
    obtain ⟨c, hc⟩ := List.exists_mem_of_ne_nil _ h2
    exact ⟨s, hs, c, by rw [h, hasI_iff.2 hc, hasB_iff.2 hs]; rfl⟩
/-- While they clean: done have. -/
def Cl (M : VA) (names : List ByteArray) (cl done : List Int) : Prop := ∀ s c, M.dirty s c = (hasI cl c && hasB names s && !hasI done c)
theorem Mk.cl {M : VA} {names : List ByteArray} {cl : List Int} (h : Mk M names cl) : Cl M names cl [] := fun s c => by rw [h]; simp [hasI]
theorem Cl.clean {M : VA} {names : List ByteArray} {cl done : List Int} (h : Cl M names cl done) (c : Int) : Cl (M.clean c) names cl (done ++ [c]) := by
  intro s c'
  simp only [VA.clean, h s c', hasI_append, hasI_one]
  by_cases e : c = c' <;> cases hasI cl c' <;> cases hasB names s <;> cases hasI done c' <;> simp [e]
/-- Is one left that has not cleaned. -/
def leftB (cl done : List Int) : Bool := cl.any fun c => !hasI done c
theorem Cl.busy {M : VA} {names : List ByteArray} {cl done : List Int} (h : Cl M names cl done) : (∃ s ∈ names, ∃ c, M.dirty s c = true) ↔ names ≠ [] ∧ leftB cl done = true := by
  constructor
  · rintro ⟨s, hs, c, hc⟩
    rw [h] at hc
    simp only [Bool.and_eq_true, Bool.not_eq_true'] at hc
    refine ⟨fun e => (by rw [e] at hs; cases hs), List.any_eq_true.2 ⟨c, hasI_iff.1 hc.1.1, by rw [hc.2]; rfl⟩⟩
  · rintro ⟨h1, h2⟩
    obtain ⟨s, hs⟩ := List.exists_mem_of_ne_nil _ h1
    obtain ⟨c, hc, hd⟩ := List.any_eq_true.1 h2
    exact ⟨s, hs, c, by rw [h, hasI_iff.2 hc, hasB_iff.2 hs]; simpa using hd⟩
theorem leftB_all (cl : List Int) : leftB cl cl = false := by
  unfold leftB
  rw [List.any_eq_false]
  intro c hc
  simp [hasI_iff.2 hc]

theorem leftB_next {cl done : List Int} {x : Nat} {c : Int} (h : cl.take (x + 1) = cl.take x ++ [c]) : leftB (cl.take (x + 1)) done = (leftB (cl.take x) done || !hasI done c) := by
  rw [h]; simp [leftB]
theorem hasI_next {cl : List Int} {z : Nat} {y c : Int} (h : cl.take (z + 1) = cl.take z ++ [y]) : hasI (cl.take (z + 1)) c = (hasI (cl.take z) c || decide (y = c)) := by
  rw [h, hasI_append, hasI_one]

set_option maxRecDepth 8000 in
set_option maxHeartbeats 8000000 in
theorem VersDirty_walk (w : World) (C : Option Addr) (nn cc : Nat) (names : List ByteArray) (hN : NamesA w C nn names) (A : Option Addr) (n cp : Nat) (cl : List Int) (hA : BytesA w A n cl) :
    Calls Try.prog 4 #[.slice C nn cc, .slice A n cp] w fun e w' => e = .returned (.bool true) ∧ Below w.heap.size w w' := by
  have HN := Lib.hid hN; have HA := Lib.hid hA
  clear hN hA
  go_enter Try.func4, Try.ntmps4
  go_wp2_with fail
  refine (NewV w).mono ?_
  rintro e w1 ⟨pv, rfl, v1, t1⟩
  generalize hB : w.heap.size = Bz at *
  have b1 : Below Bz w w1 := t1.below0 (by omega)
  have nI1 := (HN.out.low' hB b1 t1.size).1
  go_wp2_with fail
  refine (few_any nI1 HN.out.len (fun s hs => Nat.le_trans (HN.out.size s hs) (by decide))).mono ?_
  rintro e w2 ⟨rfl, rfl⟩
  cases hfew : fewB names with
  | false =>
    go_wp2_with fail
    refine (known_any w1).mono ?_
    rintro e w3 ⟨rfl, t3⟩
    go_wp2
    go_ret
    exact ⟨rfl, by rw [hB]; exact b1.trans (t3.mono v1.size)⟩
  | true =>
  have hnn : nn ≤ 20 := by have := few_small hfew; have := HN.out.row.1; omega
  clear hfew nI1
  by_cases h30 : 30 < n
  · have hi : (30 : Int) < (n : Int) := by omega
    go_wp2_with fail
    refine (known_any w1).mono ?_
    rintro e w3 ⟨rfl, t3⟩
    go_wp2
    go_ret
    exact ⟨rfl, by rw [hB]; exact b1.trans (t3.mono v1.size)⟩
  have hi : ¬ (30 : Int) < (n : Int) := by omega
  have hz1 := t1.size
  have hsome : ∀ b : Bool, (b = true ↔ names ≠ []) → b = decide (0 < nn) := fun b h => by
    have := HN.out.row.1
    by_cases e : names = []
    · have : nn = 0 := by rw [this, e]; rfl
      subst this
      cases b with
      | false => rfl
      | true => exact absurd e (h.1 rfl)
    · have h1 := h.2 e
      have : 0 < nn := by rw [this]; exact List.length_pos_iff.2 e
      rw [h1]; symm; simpa using this
  have Hsome := Lib.hid hsome
  clear hsome
  generalize hsm : decide (0 < nn) = sm at Hsome
  go_wp2_with fail
  have Hsm := Lib.hid hsm
  clear hsm
  go_loopw [7] (fun i wr => ∃ (j : Nat) (M : VA), j ≤ n ∧ i = .int .i64 j ∧ Hid (Mk M names (cl.take j)) ∧ Hid (Ver Bz [] wr pv M (50 * j)) ∧ Hid (Below Bz w wr ∧ w.heap.size ≤ wr.heap.size)) (fun i _ => n - (intOf i).toNat)
  case atStart => exact ⟨0, _, Nat.zero_le _, rfl, Lib.hid (fun s c => by simp [hasI]), Lib.hid v1, Lib.hid ⟨b1, hz1⟩⟩
  clear v1 b1 t1 hz1
  case round =>
    obtain ⟨j, M, hj, rfl, hk, hv, hb⟩ := hrel
    by_cases hlt : j < n
    · obtain ⟨g, o, rfl, hgB, hadd, c0, hr, hs, hmem⟩ := HA.out.cell hB hb.out.1 hlt
      generalize cl.getD j 0 = c at *
      have hci : goodI c := goodI_small (by omega) (by omega)
      have Hs := Lib.hid hs
      have NI := Lib.hid (HN.out.low' hB hb.out.1 hb.out.2)
      clear hs hmem
      go_wp2_with fail
      refine (DirtyV hv.out c hci NI.out.1 (NI.out.2 _) HN.out.good (by omega)).mono ?_
      rintro e w3 ⟨rfl, v3, k3, z3⟩
      have hb3 := Lib.hid (And.intro (hb.out.1.trans k3.1) (Nat.le_trans hb.out.2 z3))
      have c3 := k3.cell c0 (.inl hgB)
      have NI3 := Lib.hid (HN.out.low' hB hb3.out.1 hb3.out.2)
      go_wp2_with fail
      refine (DirtyV v3 c hci NI3.out.1 (NI3.out.2 _) HN.out.good (by omega)).mono ?_
      rintro e w4 ⟨rfl, v4, k4, z4⟩
      have hb4 := Lib.hid (And.intro (hb3.out.1.trans k4.1) (Nat.le_trans hb3.out.2 z4))
      have NI4 := Lib.hid (HN.out.low' hB hb4.out.1 hb4.out.2)
      have hk4 := Lib.hid (hk.out.mark2 c)
      have hv4 := Lib.hid v4
      clear v3 k3 z3 v4 k4 z4 hv hb hk NI NI3 hb3
      go_wp2_with fail
      refine (BusyV hv4.out NI4.out.1 HN.out.good (by omega)).mono ?_
      rintro e w5 ⟨b, rfl, hbb, rfl⟩
      obtain rfl : b = sm := Hsome.out b (by rw [hbb, hk4.out.busy]; simp)
      rw [Hs.out.symm] at hk4
      have hxx : (b != b) = false := by simp
      go_wp2_with fail
      go_roundw
      case rel => exact ⟨j + 1, _, by omega, by go_num, hk4, Lib.hid (hv4.out.mono (by omega)), hb4⟩
      case measure => simp [intOf]; omega
    · have hjn : j = n := by omega
      subst hjn
      have hk1 : Hid (Cl M names cl (cl.take 0)) := Lib.hid (by
        have := hk.out
        rw [show cl.take j = cl by rw [HA.out.row.1]; exact List.take_length] at this
        exact this.cl)
      clear hk
      go_wp2_with fail
      have hN0 : Hid (50 * j ≤ 1500) := Lib.hid (by omega)
      generalize 50 * j = N0 at *
      have Hsm2 : Hid (sm = true ↔ names ≠ []) := Lib.hid (by
        have := Hsome.out (decide (names ≠ [])) (by simp)
        rw [← this]; simp)
      clear hj Hsm Hsome
      go_loopw [8, 9, 10, 11, 12] (fun i _ _ _ _ wr => ∃ (q : Nat) (M2 : VA), q ≤ j ∧ i = .int .i64 q ∧ Hid (Cl M2 names cl (cl.take q)) ∧ Hid (Ver Bz [] wr pv M2 N0) ∧ Hid (Below Bz w wr ∧ w.heap.size ≤ wr.heap.size)) (fun i _ _ _ _ _ => j - (intOf i).toNat)
      case atStart => exact ⟨0, M, Nat.zero_le _, rfl, hk1, hv, hb⟩
      clear hk1 hv hb
      case round =>
        obtain ⟨q, M2, hq, rfl, hk, hv, hb⟩ := hrel
        by_cases hlt : q < j
        · go_wp2_with fail
          obtain ⟨wo, hwo⟩ : ∃ wo : World, wo = wr := ⟨_, rfl⟩
          rw [← hwo] at hv hb
          have T0 : Touch [] wo wr := by rw [hwo]; exact Touch.refl _ _
          clear hwo
          go_loopw [9, 10, 11, 12] (fun lf x _ _ wx => ∃ (x' : Nat), x' ≤ j ∧ x = .int .i64 x' ∧ lf = .bool (leftB (cl.take x') (cl.take q)) ∧ Touch [] wo wx) (fun _ x _ _ _ => j - (intOf x).toNat)
          case atStart => exact ⟨0, Nat.zero_le _, rfl, rfl, T0⟩
          clear T0
          case round =>
            obtain ⟨x, hx, rfl, rfl, hT⟩ := hrel
            by_cases hltx : x < j
            · obtain ⟨g, o, rfl, hgB, haddx, cxw, hrx, hsx, _⟩ := HA.out.cell hB hb.out.1 hltx
              have Hsx := Lib.hid hsx
              generalize hcx : cl.getD x 0 = cx at *
              have Hcx := Lib.hid hcx
              generalize hlf : leftB (cl.take x) (cl.take q) = lf at *
              have Hlf := Lib.hid hlf
              have Cxw := Lib.hid cxw
              have hxi : (0 : Int) ≤ x ∧ (x : Int) < j := by omega
              obtain ⟨hx0, hx1⟩ := hxi
              clear hsx hcx hlf cxw
              go_wp2_with fail
              obtain ⟨wi, hwi⟩ : ∃ wi : World, wi = wr := ⟨_, rfl⟩
              have T1 : Touch [] wo wr := hT
              clear hwi wi
              go_loopw [11, 12] (fun cn z wx => ∃ (z' : Nat), z' ≤ q ∧ z = .int .i64 z' ∧ cn = .bool (hasI (cl.take z') cx) ∧ Touch [] wo wx) (fun _ z _ => q - (intOf z).toNat)
              case atStart => exact ⟨0, Nat.zero_le _, rfl, rfl, T1⟩
              clear T1 hT
              case round =>
                obtain ⟨z, hz, rfl, rfl, hT⟩ := hrel
                by_cases hltz : z < q
                · obtain ⟨g2, o2, ho2, hgB2, haddz, cz, hrz, hsz, _⟩ := HA.out.cell hB hb.out.1 (k := z) (by omega)
                  cases ho2
                  have cz' := hT.cell cz (by simp)
                  have cx' := hT.cell Cxw.out (by simp)
                  have Hsz := Lib.hid hsz
                  generalize cl.getD z 0 = y at *
                  have hz0 : (0 : Int) ≤ z := by omega
                  have hz1 : (z : Int) < j := by omega
                  clear hsz cz
                  cases hb1 : hasI (cl.take z) cx with
                  | true =>
                    have Hb1 : Hid (hasI (cl.take (z + 1)) cx = true) := Lib.hid (by rw [hasI_next Hsz.out, hb1]; rfl)
                    clear hb1
                    go_wp2_with fail
                    go_quiet (fail)
                    go_wp2_with fail
                    go_roundw
                    case rel => exact ⟨z + 1, by omega, by go_num, by rw [Hb1.out], hT.drewN nq⟩
                    case measure => simp [intOf]; omega
                  | false =>
                    have Hb1 : Hid (hasI (cl.take (z + 1)) cx = decide (y = cx)) := Lib.hid (by rw [hasI_next Hsz.out, hb1]; rfl)
                    clear hb1
                    by_cases hxy : cx = y
                    · have e1 : (cx == y) = true := by simp [hxy]
                      have Hb2 : Hid (hasI (cl.take (z + 1)) cx = true) := Lib.hid (by rw [Hb1.out]; simp [hxy])
                      clear hxy Hb1
                      go_wp2_with fail
                      go_quiet (fail)
                      go_wp2_with fail
                      go_roundw
                      case rel => exact ⟨z + 1, by omega, by go_num, by rw [Hb2.out], hT.drewN nq⟩
                      case measure => simp [intOf]; omega
                    · have e1 : (cx == y) = false := by simpa using hxy
                      have Hb2 : Hid (hasI (cl.take (z + 1)) cx = false) := Lib.hid (by rw [Hb1.out]; simpa using fun e => hxy e.symm)
                      clear hxy Hb1
                      go_wp2_with fail
                      go_quiet (fail)
                      go_wp2_with fail
                      go_roundw
                      case rel => exact ⟨z + 1, by omega, by go_num, by rw [Hb2.out], hT.drewN nq⟩
                      case measure => simp [intOf]; omega
                · have hzq : z = q := by omega
                  subst hzq
                  have Hn : Hid (leftB (cl.take (x + 1)) (cl.take z) = (lf || !hasI (cl.take z) cx)) := Lib.hid (by rw [leftB_next Hsx.out, Hlf.out])
                  generalize hasI (cl.take z) cx = cn at *
                  cases lf with
                  | true =>
                    have Hn2 : Hid (leftB (cl.take (x + 1)) (cl.take z) = true) := Lib.hid (by rw [Hn.out]; rfl)
                    go_wp2_with fail
                    go_roundw
                    case rel => exact ⟨x + 1, by omega, by go_num, by rw [Hn2.out], hT⟩
                    case measure => simp [intOf]; omega
                  | false =>
                    have Hn2 : Hid (leftB (cl.take (x + 1)) (cl.take z) = !cn) := Lib.hid (by rw [Hn.out]; rfl)
                    go_wp2_with fail
                    go_roundw
                    case rel => exact ⟨x + 1, by omega, by go_num, by rw [Hn2.out], hT⟩
                    case measure => simp [intOf]; omega
            · have hxj : x = j := by omega
              subst hxj
              have hl' : cl.take x = cl := by rw [HA.out.row.1]; exact List.take_length
              rw [hl']
              have hv2 := Lib.hid (hv.out.kept hT)
              have hb2 := Lib.hid (And.intro (hb.out.1.trans (hT.below0 hv.out.size)) (Nat.le_trans hb.out.2 hT.size))
              have NI := Lib.hid (HN.out.low' hB hb2.out.1 hb2.out.2)
              obtain ⟨g, o, rfl, hgB, hadd, c0, hr, hs, _⟩ := HA.out.cell hB hb2.out.1 hlt
              generalize cl.getD q 0 = c at *
              have Hs := Lib.hid hs
              have hci : goodI c := goodI_small (by omega) (by omega)
              clear hv hb hT hs hl'
              go_wp2_with fail
              refine (BusyV hv2.out NI.out.1 HN.out.good (by omega)).mono ?_
              rintro e w5 ⟨b, rfl, hbb, rfl⟩
              generalize hlf : leftB cl (cl.take q) = lf at *
              obtain rfl : b = (sm && lf) := by
                rw [Bool.eq_iff_iff, hbb, hk.out.busy, hlf]
                simp only [Bool.and_eq_true, Hsm2.out]
              have hxx : ((sm && lf) != (sm && lf)) = false := by simp
              have hmm : ∀ b : Bool, (b != b) = false := fun b => by simp
              have H1 := hmm true
              have H2 := hmm false
              clear hbb hmm
              cases sm <;> cases lf
              all_goals
                go_wp2_with fail
                refine (CleanV hv2.out c hci).mono ?_
                rintro e w6 ⟨rfl, v6, k6, z6⟩
                go_wp2_with fail
                go_roundw
                case rel => exact ⟨q + 1, _, by omega, by go_num, Lib.hid (by rw [Hs.out]; exact hk.out.clean c), Lib.hid v6, Lib.hid ⟨hb2.out.1.trans k6.1, Nat.le_trans hb2.out.2 z6⟩⟩
                case measure => simp [intOf]; omega
        · have hqj : q = j := by omega
          subst hqj
          have NI := Lib.hid (HN.out.low' hB hb.out.1 hb.out.2)
          have hl' : cl.take q = cl := by rw [HA.out.row.1]; exact List.take_length
          have hk' := hk.out
          rw [hl'] at hk'
          have Hk := Lib.hid hk'
          clear hk hk' hl'
          go_wp2_with fail
          refine (BusyV hv.out NI.out.1 HN.out.good (by omega)).mono ?_
          rintro e w5 ⟨b, rfl, hbb, rfl⟩
          obtain rfl : b = false := by
            cases b with
            | false => rfl
            | true =>
              have := (Hk.out.busy.1 (hbb.1 rfl)).2
              rw [leftB_all] at this; cases this
          go_wp2_with fail
          refine (known_any wr).mono ?_
          rintro e w9 ⟨rfl, t9⟩
          go_wp2
          go_ret
          exact ⟨rfl, by rw [hB]; exact hb.out.1.trans (t9.mono hv.out.size)⟩
end Go.Proofs.Ytjmgookpmngmaac
