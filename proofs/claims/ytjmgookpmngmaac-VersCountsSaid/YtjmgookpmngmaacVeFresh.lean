/- VersFresh: the plain law, and the walk. -/
import Derived.Test.YtjmgookpmngmaacVeArg
import Derived.Deep.DeepCutAuto
import Derived.Deep.CutBlock
namespace Go.Proofs.Ytjmgookpmngmaac
open Go Go.RowKit Go.Maps

/-- A stamp beside one that stands there. -/
structure St (B : Nat) (ks : List Nat) (w0 w : World) (pv : Nat) (M : VA) (n : Nat) (E : Int) (A1 : Option Addr) (n1 c1 : Nat) (A2 : Option Addr) (c2 : Nat) (names : List ByteArray) (nums : List Int) (gs : Nat) : Prop where
  v : Ver B ks w pv M n
  a : NamesI w A1 n1 names
  b : NumsI w A2 n1 nums
  c : w.heap[gs]? = some (.cells #[.int .i64 E, .slice A1 n1 c1, .slice A2 n1 c2] 33 (0, 0))
  l1 : LowA B ks A1 n1
  l2 : LowA B ks A2 n1
  l3 : gs ∈ ks
  bl : Below B w0 w
section
variable {B : Nat} {ks : List Nat} {w0 w w' : World} {pv : Nat} {M M' : VA} {n n' : Nat} {E : Int} {A1 : Option Addr} {n1 c1 : Nat} {A2 : Option Addr} {c2 gs : Nat} {names : List ByteArray} {nums : List Int}
theorem St.step (h : St B ks w0 w pv M n E A1 n1 c1 A2 c2 names nums gs) (v : Ver B ks w' pv M' n') (k : Kept B ks w w') (hs : w.heap.size ≤ w'.heap.size) : St B ks w0 w' pv M' n' E A1 n1 c1 A2 c2 names nums gs :=
  ⟨v, h.a.keptK k h.l1 hs, h.b.keptK k h.l2 hs, (k.2 gs h.l3).trans h.c, h.l1, h.l2, h.l3, h.bl.trans k.1⟩
theorem St.kept (h : St B ks w0 w pv M n E A1 n1 c1 A2 c2 names nums gs) (t : Touch [] w w') : St B ks w0 w' pv M n E A1 n1 c1 A2 c2 names nums gs := h.step (h.v.kept t) (h.v.keeps t) t.size
theorem St.cells (h : St B ks w0 w pv M n E A1 n1 c1 A2 c2 names nums gs) : w.cell? ⟨gs, 0, none⟩ = some (.int .i64 E) ∧ w.cell? ⟨gs, 1, none⟩ = some (.slice A1 n1 c1) ∧ w.cell? ⟨gs, 2, none⟩ = some (.slice A2 n1 c2) :=
  ⟨by rw [cell_of h.c]; rfl, by rw [cell_of h.c]; rfl, by rw [cell_of h.c]; rfl⟩
theorem St.mono (h : St B ks w0 w pv M n E A1 n1 c1 A2 c2 names nums gs) {m : Nat} (hm : n ≤ m) : St B ks w0 w pv M m E A1 n1 c1 A2 c2 names nums gs := ⟨h.v.mono hm, h.a, h.b, h.c, h.l1, h.l2, h.l3, h.bl⟩
/-- A new block beside it. -/
theorem St.box (h : St B ks w0 w pv M n E A1 n1 c1 A2 c2 names nums gs) (o : Obj) : St B (w.heap.size :: ks) w0 (w.alloc o) pv M n E A1 n1 c1 A2 c2 names nums gs := by
  have t : Touch [] w (w.alloc o) := (Touch.refl _ _).alloc o
  have k := h.kept t
  exact ⟨h.v.watch t _ (Nat.le_refl _) (by simp), k.a, k.b, k.c, h.l1.imp id fun hl a ha => (hl a ha).imp id (List.mem_cons_of_mem _), h.l2.imp id fun hl a ha => (hl a ha).imp id (List.mem_cons_of_mem _), List.mem_cons_of_mem _ h.l3, k.bl⟩
theorem St.drop {g : Nat} (h : St B (g :: ks) w0 w pv M n E A1 n1 c1 A2 c2 names nums gs) (l1 : LowA B ks A1 n1) (l2 : LowA B ks A2 n1) (l3 : gs ∈ ks) : St B ks w0 w pv M n E A1 n1 c1 A2 c2 names nums gs :=
  ⟨h.v.rest (by simp +contextual), h.a, h.b, h.c, l1, l2, l3, h.bl⟩
end

/-! ### the plain law -/
def frB (M0 M : VA) (names : List ByteArray) : Bool := decide (M0.ep = M.ep) && decide (names.map M.num = names.map M0.num)
structure Rise (M0 M : VA) : Prop where
  ep : M0.ep ≤ M.ep
  num : ∀ s, M0.num s ≤ M.num s
theorem Rise.refl (M : VA) : Rise M M := ⟨Int.le_refl _, fun _ => Int.le_refl _⟩
theorem Rise.bump {M0 M : VA} (h : Rise M0 M) (l : List ByteArray) : Rise M0 (M.bump l) := ⟨h.ep, fun s => by have := h.num s; simp only [VA.bump]; split <;> omega⟩
theorem Rise.all {M0 M : VA} (h : Rise M0 M) : Rise M0 M.all := ⟨by have := h.ep; simp only [VA.all]; omega, h.num⟩
theorem frB_refl (M : VA) (names : List ByteArray) : frB M M names = true := by simp [frB]
theorem frB_all {M0 M : VA} (h : Rise M0 M) (names : List ByteArray) : frB M0 M.all names = false := by
  have : ¬ M0.ep = M.all.ep := by have := h.ep; simp only [VA.all]; omega
  simp [frB, this]
theorem frB_bump {M0 M : VA} (h : Rise M0 M) (l names : List ByteArray) : frB M0 (M.bump l) names = (frB M0 M names && !meetsB l names) := by
  have e1 : ∀ (f : ByteArray → Int), (names.map f = names.map M0.num) ↔ ∀ s ∈ names, f s = M0.num s := fun f => by simp [List.map_inj_left]
  have e2 : (meetsB l names = false) ↔ ∀ s ∈ names, hasB l s = false := by
    simp only [meetsB, List.any_eq_false]
    constructor
    · intro h s hs
      cases hb : hasB l s with
      | false => rfl
      | true => exact absurd (hasB_iff.2 hs) (h s (hasB_iff.1 hb))
    · intro h s hs hb
      have := h s (hasB_iff.1 hb)
      rw [hasB_iff.2 hs] at this
      cases this
  have e3 : (∀ s ∈ names, (M.bump l).num s = M0.num s) ↔ (∀ s ∈ names, M.num s = M0.num s) ∧ ∀ s ∈ names, hasB l s = false := by
    simp only [VA.bump]
    constructor
    · intro hh
      refine ⟨fun s hs => ?_, fun s hs => ?_⟩
      · have := hh s hs; have := h.num s; split at * <;> omega
      · have h1 := hh s hs; have h2 := h.num s
        cases hb : hasB l s with
        | false => rfl
        | true => rw [hb] at h1; simp at h1; omega
    · rintro ⟨h1, h2⟩ s hs
      rw [h2 s hs, h1 s hs]; simp
  rw [Bool.eq_iff_iff]
  simp only [frB, Bool.and_eq_true, decide_eq_true_eq, Bool.not_eq_true', e1, e2, e3]
  exact ⟨fun ⟨a, b, c⟩ => ⟨⟨a, b⟩, c⟩, fun ⟨⟨a, b⟩, c⟩ => ⟨a, b, c⟩⟩
theorem frB_mark (M0 M : VA) (c : Int) (l names : List ByteArray) : frB M0 (M.mark c l) names = frB M0 M names := rfl
theorem frB_clean (M0 M : VA) (c : Int) (names : List ByteArray) : frB M0 (M.clean c) names = frB M0 M names := rfl

set_option maxRecDepth 8000 in
set_option maxHeartbeats 8000000 in
theorem VersFresh_walk (w : World) (A : Option Addr) (n cp : Nat) (os : List OpT) (hn : n = os.length) (hA : ∀ a, A = some a → RowO w a n os) (h0 : A = none → n = 0) (hs : ∀ o ∈ os, GoodO w o) 
    (C : Option Addr) (nn cc : Nat) (names : List ByteArray) (hN : NamesA w C nn names)
    (A' : Option Addr) (n' cp' : Nat) (os' : List OpT) (hn' : n' = os'.length) (hA' : ∀ a, A' = some a → RowO w a n' os') (h0' : A' = none → n' = 0) (hs' : ∀ o ∈ os', GoodO w o) :
    Calls Try.prog 3 #[.slice A n cp, .slice C nn cc, .slice A' n' cp'] w fun e w' => e = .returned (.bool true) ∧ Below w.heap.size w w' := by
  have Hn := Lib.hid hn; have Hs := Lib.hid hs; have HA := Lib.hid hA; have H0 := Lib.hid h0
  have Hn' := Lib.hid hn'; have Hs' := Lib.hid hs'; have HA' := Lib.hid hA'; have H0' := Lib.hid h0'
  have HN := Lib.hid hN
  clear hn hs hA h0 hn' hs' hA' h0' hN
  go_enter Try.func3, Try.ntmps3
  go_wp2_with fail
  refine (NewV w).mono ?_
  rintro e w1 ⟨pv, rfl, v1, t1⟩
  generalize hB : w.heap.size = Bz at *
  have b1 : Below Bz w w1 := t1.below0 (by omega)
  have nI1 := (HN.out.low' hB b1 t1.size).1
  go_wp2_with fail
  refine (few_any nI1 HN.out.len (fun s hs => Nat.le_trans (HN.out.size s hs) (by decide))).mono ?_
  rintro e w2 ⟨rfl, rfl⟩
  cases hfew : fewB names with
  | false =>
    go_wp2_with fail
    refine (known_any w1).mono ?_
    rintro e w3 ⟨rfl, t3⟩
    go_wp2
    go_ret
    exact ⟨rfl, by rw [hB]; exact b1.trans (t3.mono v1.size)⟩
  | true =>
  have hnn : nn ≤ 20 := by have := few_small hfew; have := HN.out.row.1; omega
  clear hfew nI1
  go_wp2_with fail
  have hz1 := t1.size
  go_loopw [8] (fun i wr => ∃ (j : Nat) (M : VA), j ≤ n ∧ j ≤ 30 ∧ i = .int .i64 j ∧ Hid (Ver Bz [] wr pv M (30 * j)) ∧ Hid (Below Bz w wr ∧ w.heap.size ≤ wr.heap.size)) (fun i _ => n - (intOf i).toNat)
  case atStart => exact ⟨0, _, Nat.zero_le _, Nat.zero_le _, rfl, Lib.hid v1, Lib.hid ⟨b1, hz1⟩⟩
  clear v1 b1 t1 hz1
  case round =>
    obtain ⟨j, M, hj, hj3, rfl, hv, hb⟩ := hrel
    by_cases hlt : j < n ∧ j < 30
    · obtain ⟨hlt, hl3⟩ := hlt
      obtain ⟨a, rfl⟩ : ∃ a, A = some a := by
        cases A with
        | none => have := H0.out rfl; omega
        | some a => exact ⟨a, rfl⟩
      have hR := HA.out a rfl
      obtain ⟨o, hoj⟩ : ∃ o, os[j]? = some o := ⟨_, List.getElem?_eq_getElem (by have := Hn.out; omega)⟩
      have Hgo := Lib.hid (Hs.out o (List.mem_of_getElem? hoj))
      have hka := hR.2 j o hoj
      have hlo := hka.lt
      rw [hB] at hlo
      obtain ⟨d0, d1, d2⟩ := hka.low hb.out.1 hlo
      have nI := Hgo.out.names.low' hB hb.out.1 hb.out.2
      have NI := Lib.hid nI
      clear hoj hR hka nI
      go_wp2_with fail
      refine (few_any NI.out.1 Hgo.out.names.len (fun s hs => Nat.le_trans (Hgo.out.names.size s hs) (by decide))).mono ?_
      rintro e w2 ⟨rfl, rfl⟩
      cases hfw : fewB o.names with
      | false =>
        by_cases k1 : o.kind = 1
        · have hk1 : (o.kind == 1) = true := by simp [k1]
          clear k1
          go_wp2_with fail
          refine (AllV hv.out (by omega)).mono ?_
          rintro e w3 ⟨rfl, v3, k3, z3⟩
          go_wp2_with fail
          go_roundw
          case rel => exact ⟨j + 1, _, by omega, by omega, by go_num, Lib.hid (v3.mono (by omega)), Lib.hid ⟨hb.out.1.trans k3.1, Nat.le_trans hb.out.2 z3⟩⟩
          case measure => simp [intOf]; omega
        · have hk1 : (o.kind == 1) = false := by simp [k1]
          clear k1
          go_wp2_with fail
          go_roundw
          case rel => exact ⟨j + 1, _, by omega, by omega, by go_num, Lib.hid (hv.out.mono (by omega)), hb⟩
          case measure => simp [intOf]; omega
      | true =>
        have ho20 : o.n ≤ 20 := by have := few_small hfw; have := Hgo.out.names.row.1; omega
        clear hfw
        by_cases k0 : o.kind = 0
        · have hk0 : (o.kind == 0) = true := by simp [k0]
          have hk1 : (o.kind == 1) = false := by simp [k0]
          clear k0
          go_wp2_with fail
          refine (BumpV hv.out NI.out.1 (NI.out.2 _) Hgo.out.names.good (by omega)).mono ?_
          rintro e w3 ⟨rfl, v3, k3, z3⟩
          obtain ⟨d0, d1, d2⟩ := OpAt.low (o := o) ⟨d0, d1, d2⟩ k3.1 hlo
          go_wp2_with fail
          go_roundw
          case rel => exact ⟨j + 1, _, by omega, by omega, by go_num, Lib.hid (v3.mono (by omega)), Lib.hid ⟨hb.out.1.trans k3.1, Nat.le_trans hb.out.2 z3⟩⟩
          case measure => simp [intOf]; omega
        · have hk0 : (o.kind == 0) = false := by simp [k0]
          clear k0
          by_cases k1 : o.kind = 1
          · have hk1 : (o.kind == 1) = true := by simp [k1]
            clear k1
            go_wp2_with fail
            refine (AllV hv.out (by omega)).mono ?_
            rintro e w3 ⟨rfl, v3, k3, z3⟩
            go_wp2_with fail
            go_roundw
            case rel => exact ⟨j + 1, _, by omega, by omega, by go_num, Lib.hid (v3.mono (by omega)), Lib.hid ⟨hb.out.1.trans k3.1, Nat.le_trans hb.out.2 z3⟩⟩
            case measure => simp [intOf]; omega
          · have hk1 : (o.kind == 1) = false := by simp [k1]
            clear k1
            go_wp2_with fail
            go_roundw
            case rel => exact ⟨j + 1, _, by omega, by omega, by go_num, Lib.hid (hv.out.mono (by omega)), hb⟩
            case measure => simp [intOf]; omega
    · have hend : Hid (30 * j ≤ 900) := Lib.hid (by omega)
      have nI := (HN.out.low' hB hb.out.1 hb.out.2).1
      by_cases hjn : j < n
      all_goals
        go_wp2_with fail
        refine (TakeW hv.out nI HN.out.good (by omega)).mono ?_
        rintro e w3 ⟨A1, c1, A2, c2, rfl, v3, a3, b3, k3, t3⟩
        have v4 := v3.watch (w' := w3.alloc (.cells #[.int .i64 M.ep, .slice A1 nn c1, .slice A2 nn c2] 33)) ((Touch.refl _ _).alloc _) w3.heap.size (Nat.le_refl _) (by simp)
        have ta : Touch [] w3 (w3.alloc (.cells #[.int .i64 M.ep, .slice A1 nn c1, .slice A2 nn c2] 33)) := (Touch.refl _ _).alloc _
        have S1 : ∃ ks, Hid (St Bz ks w (w3.alloc (.cells #[.int .i64 M.ep, .slice A1 nn c1, .slice A2 nn c2] 33)) pv M (30 * j) M.ep A1 nn c1 A2 c2 names (names.map M.num) w3.heap.size) :=
          ⟨_, Lib.hid ⟨v4, a3.kept0 ta, b3.kept0 ta, heap_alloc_new w3 _, lowA_own (N := nn) (c := c1) _ (fun i hi => by simp [hi]), lowA_own (N := nn) (c := c2) _ (fun i hi => by simp [hi]), by simp, (hb.out.1.trans k3.1).trans (ta.below0 v3.size)⟩⟩
        obtain ⟨ks, S1⟩ := S1
        have hsz : Hid (w.heap.size ≤ (w3.alloc (.cells #[.int .i64 M.ep, .slice A1 nn c1, .slice A2 nn c2] 33)).heap.size) := Lib.hid (Nat.le_trans hb.out.2 (t3.trans ta (by simp)).size)
        clear v3 v4 a3 b3 k3 t3 ta hv hb nI hj hj3
        go_upto_block 2 with fail
        generalize w3.alloc (.cells #[.int .i64 M.ep, .slice A1 nn c1, .slice A2 nn c2] 33) = W3 at *
        generalize w3.heap.size = gs at *
        have hN0 := hend.out
        generalize 30 * j = N0 at *
        have L := Lib.hid (And.intro S1.out.l1 (And.intro S1.out.l2 S1.out.l3))
        go_wp2_with fail
        go_loopw [10, 11, 12] (fun fr i _ wr => ∃ (k : Nat) (M2 : VA) (b : Bool), k ≤ n' ∧ k ≤ 30 ∧ i = .int .i64 k ∧ fr = .bool b ∧ Hid (b = frB M M2 names ∧ Rise M M2) ∧ Hid (St Bz ks w wr pv M2 (N0 + 30 * k) M.ep A1 nn c1 A2 c2 names (names.map M.num) gs) ∧ Hid (w.heap.size ≤ wr.heap.size)) (fun _ i _ _ => n' - (intOf i).toNat)
        case atStart => exact ⟨0, M, true, Nat.zero_le _, Nat.zero_le _, rfl, rfl, Lib.hid ⟨(frB_refl _ _).symm, Rise.refl _⟩, S1, hsz⟩
        clear S1 hsz
        case round =>
          obtain ⟨k, M2, b, hk, hk3, rfl, rfl, hfr, hv, hz⟩ := hrel
          by_cases hlt : k < n' ∧ k < 30
          · obtain ⟨hlt, hl3⟩ := hlt
            obtain ⟨a, rfl⟩ : ∃ a, A' = some a := by
              cases A' with
              | none => have := H0'.out rfl; omega
              | some a => exact ⟨a, rfl⟩
            have hR := HA'.out a rfl
            obtain ⟨o, hoj⟩ : ∃ o, os'[k]? = some o := ⟨_, List.getElem?_eq_getElem (by have := Hn'.out; omega)⟩
            have Hgo := Lib.hid (Hs'.out o (List.mem_of_getElem? hoj))
            have hka := hR.2 k o hoj
            have hlo := hka.lt
            rw [hB] at hlo
            obtain ⟨d0, d1, d2⟩ := hka.low hv.out.bl hlo
            have S2 := Lib.hid (hv.out.box (.cells #[.int .i64 o.kind, .int .i64 o.client, .slice o.A o.n o.cp] 29))
            have e2 : (wr.alloc (.cells #[.int .i64 o.kind, .int .i64 o.client, .slice o.A o.n o.cp] 29)).heap[wr.heap.size]? = some (.cells #[.int .i64 o.kind, .int .i64 o.client, .slice o.A o.n o.cp] 29 (0, 0)) := heap_alloc_new wr _
            have z2 : Hid (w.heap.size ≤ (wr.alloc (.cells #[.int .i64 o.kind, .int .i64 o.client, .slice o.A o.n o.cp] 29)).heap.size) := Lib.hid (by have := hz.out; simp; omega)
            go_upto_region 17 with fail
            clear hoj hR hka d0 d1 d2 hv hz
            generalize wr.alloc (.cells #[.int .i64 o.kind, .int .i64 o.client, .slice o.A o.n o.cp] 29) = W at *
            generalize wr.heap.size = g at *
            have q0 : W.cell? ⟨g, 0, none⟩ = some (.int .i64 o.kind) := by rw [cell_of e2]; rfl
            have q1 : W.cell? ⟨g, 1, none⟩ = some (.int .i64 o.client) := by rw [cell_of e2]; rfl
            have q2 : W.cell? ⟨g, 2, none⟩ = some (.slice o.A o.n o.cp) := by rw [cell_of e2]; rfl
            have NI := Lib.hid (Hgo.out.names.low' hB S2.out.bl z2.out)
            clear e2
            go_wp2_with fail
            refine (few_any NI.out.1 Hgo.out.names.len (fun s hs => Nat.le_trans (Hgo.out.names.size s hs) (by decide))).mono ?_
            rintro e w2 ⟨rfl, rfl⟩
            cases hfw : fewB o.names with
            | false =>
              go_wp2_with fail
              go_roundw
              case rel => exact ⟨k + 1, M2, b, by omega, by omega, by go_num, rfl, hfr, Lib.hid ((S2.out.drop L.out.1 L.out.2.1 L.out.2.2).mono (by omega)), z2⟩
              case measure => simp [intOf]; omega
            | true =>
            have ho20 : o.n ≤ 20 := by have := few_small hfw; have := Hgo.out.names.row.1; omega
            clear hfw
            have NC := Lib.hid (HN.out.low' hB S2.out.bl z2.out)
            go_upto_block 4 with fail
            go_cut [10] (fun fr wx => ∃ (M3 : VA) (b : Bool), fr = .bool b ∧ Hid (b = frB M M3 names ∧ Rise M M3) ∧ Hid (St Bz ks w wx pv M3 (N0 + 30 * (k + 1)) M.ep A1 nn c1 A2 c2 names (names.map M.num) gs) ∧ Hid (w.heap.size ≤ wx.heap.size))
            case first =>
              by_cases k0 : o.kind = 0
              · have hk0 : (o.kind == 0) = true := by simp [k0]
                clear k0
                go_wp2_with fail
                refine (BumpV S2.out.v NI.out.1 (NI.out.2 _) Hgo.out.names.good (by omega)).mono ?_
                rintro e w3 ⟨rfl, v3, k3, z3⟩
                have S3 := Lib.hid ((S2.out.step v3 k3 z3).drop L.out.1 L.out.2.1 L.out.2.2)
                have q2' := k3.cell q2 (by simp)
                have NI3 := Lib.hid (Hgo.out.names.low' hB S3.out.bl (Nat.le_trans z2.out z3))
                have NC3 := Lib.hid (HN.out.low' hB S3.out.bl (Nat.le_trans z2.out z3))
                have Z3 := Lib.hid (Nat.le_trans z2.out z3)
                have hfr3 : Hid ((b && !meetsB o.names names) = frB M (M2.bump o.names) names ∧ Rise M (M2.bump o.names)) := Lib.hid ⟨by rw [frB_bump hfr.out.2, ← hfr.out.1], hfr.out.2.bump _⟩
                clear v3 k3 z3
                cases b with
                | false =>
                  go_wp2_with fail
                  go_meet
                  exact ⟨_, false, rfl, Lib.hid ⟨by simpa using hfr3.out.1, hfr3.out.2⟩, Lib.hid (S3.out.mono (by omega)), Z3⟩
                | true =>
                  go_wp2_with fail
                  refine (Meets_any NI3.out.1 (by omega) NC3.out.1 (by omega)).mono ?_
                  rintro e w4 ⟨rfl, rfl⟩
                  go_wp2_with fail
                  go_meet
                  exact ⟨_, _, rfl, Lib.hid ⟨by simpa using hfr3.out.1, hfr3.out.2⟩, Lib.hid (S3.out.mono (by omega)), Z3⟩
              have hk0 : (o.kind == 0) = false := by simp [k0]
              clear k0
              by_cases k1 : o.kind = 1
              · have hk1 : (o.kind == 1) = true := by simp [k1]
                clear k1
                go_wp2_with fail
                refine (AllV S2.out.v (by omega)).mono ?_
                rintro e w3 ⟨rfl, v3, k3, z3⟩
                go_wp2_with fail
                go_meet
                exact ⟨_, false, rfl, Lib.hid ⟨(frB_all hfr.out.2 names).symm, hfr.out.2.all⟩, Lib.hid (((S2.out.step v3 k3 z3).drop L.out.1 L.out.2.1 L.out.2.2).mono (by omega)), Lib.hid (Nat.le_trans z2.out z3)⟩
              have hk1 : (o.kind == 1) = false := by simp [k1]
              clear k1
              by_cases k2 : o.kind = 2
              · have hk2 : (o.kind == 2) = true := by simp [k2]
                clear k2
                go_wp2_with fail
                refine (DirtyV S2.out.v o.client Hgo.out.client NI.out.1 (NI.out.2 _) Hgo.out.names.good (by omega)).mono ?_
                rintro e w3 ⟨rfl, v3, k3, z3⟩
                go_wp2_with fail
                go_meet
                exact ⟨M2.mark o.client o.names, b, rfl, Lib.hid ⟨hfr.out.1, ⟨hfr.out.2.ep, hfr.out.2.num⟩⟩, Lib.hid (((S2.out.step v3 k3 z3).drop L.out.1 L.out.2.1 L.out.2.2).mono (by omega)), Lib.hid (Nat.le_trans z2.out z3)⟩
              have hk2 : (o.kind == 2) = false := by simp [k2]
              clear k2
              by_cases k3' : o.kind = 3
              · have hk3' : (o.kind == 3) = true := by simp [k3']
                clear k3'
                go_wp2_with fail
                refine (CleanV S2.out.v o.client Hgo.out.client).mono ?_
                rintro e w3 ⟨rfl, v3, k3, z3⟩
                go_wp2_with fail
                go_meet
                exact ⟨M2.clean o.client, b, rfl, Lib.hid ⟨hfr.out.1, ⟨hfr.out.2.ep, hfr.out.2.num⟩⟩, Lib.hid (((S2.out.step v3 k3 z3).drop L.out.1 L.out.2.1 L.out.2.2).mono (by omega)), Lib.hid (Nat.le_trans z2.out z3)⟩
              have hk3' : (o.kind == 3) = false := by simp [k3']
              clear k3'
              go_wp2_with fail
              go_meet
              exact ⟨_, b, rfl, hfr, Lib.hid ((S2.out.drop L.out.1 L.out.2.1 L.out.2.2).mono (by omega)), z2⟩
            case rest =>
              obtain ⟨M3, b3, rfl, hfr3, S3, Z3⟩ := hcut
              obtain ⟨s0, s1, s2⟩ := S3.out.cells
              clear S2 z2 q0 q1 q2 NI NC hfr
              go_wp2_with fail
              refine (FreshV S3.out.v M.ep S3.out.a HN.out.good (by omega) S3.out.b).mono ?_
              rintro e w4 ⟨rfl, t4⟩
              rw [show (decide (M.ep = M3.ep) && decide (names.map M3.num = names.map M.num)) = b3 from hfr3.out.1.symm]
              have S4 := Lib.hid (S3.out.kept t4)
              have Z4 := Lib.hid (Nat.le_trans Z3.out t4.size)
              clear S3 Z3 t4 s0 s1 s2
              go_wp2_with fail
              go_roundw
              case rel => exact ⟨k + 1, M3, b3, by omega, by omega, by go_num, rfl, hfr3, S4, Z4⟩
              case measure => simp [intOf]; omega
          · have hS := hv.out.bl
            have hsz := hv.out.v.size
            by_cases hkn : k < n'
            all_goals
              go_wp2_with fail
              refine (known_any wr).mono ?_
              rintro e w9 ⟨rfl, t9⟩
              go_wp2
              go_ret
              exact ⟨rfl, by rw [hB]; exact hS.trans (t9.mono hsz)⟩
end Go.Proofs.Ytjmgookpmngmaac
