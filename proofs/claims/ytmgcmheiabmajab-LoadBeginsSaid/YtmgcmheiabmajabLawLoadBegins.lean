/- The row of LoadBegins: for every input the law returns true, and each argument reads behind the call as it read before. -/
import Derived.Test.YtmgcmheiabmajabRows
import Derived.Test.YtmgcmheiabmajabLoBegins
import Derived.Test.YtmgcmheiabmajabRead
import Derived.WalkKit
import Derived.ProofKit
import Derived.OpenShut
import Derived.ShutString
import Derived.ChangeOld
import Derived.Below
import Derived.SizedLaws
import Derived.Lib.SmallJoins
namespace Go.Proofs.Ytmgcmheiabmajab.loadBegins
open Go.ChangeShapes Go.WideShapes Go.ChangeAt Go.RowKit Go.Proofs.Ytmgcmheiabmajab
open Go.ChangeMaps (open_string shut_string)
set_option linter.unusedVariables false
theorem own : ownKnob Try.prog.godebug = none := by kernel_rfl
theorem laidOut : laidOutB Try.prog = true := by kernel_rfl
set_option maxRecDepth 100000 in
set_option maxHeartbeats 1000000 in
theorem lifted (os : Os) (started : os.Started) (H : Type) (enc : TypeId × Value → H) :
    ReturnsInHanded {} Try.checked os 4 .any (Rows.loadBeginsSpec.pre6 enc Try.prog Try.f4 Rows.loadBeginsRow.domain false) (Rows.loadBeginsSpec.post enc Try.prog Try.f4 false true false false) := by
  refine returnsInHanded_of_change_sized (C := Try.checked) own started (by kernel_rfl) Try.func4
    (ChangeSpec.witness6 (enc := enc) (C := Try.checked) false ⟨#[], #[.int .u64 0, .agg #[.int .u8 0, .int .u8 0, .int .u8 0]], []⟩ 8 (by kernel_rfl) (by kernel_rfl) (by kernel_rfl) (by kernel_rfl)) ?_
  intro W base args ds gs before hval0 hW hcnd hsz0 _
  have hsz : (DataW.weightsEach Try.prog (Try.f4.params.toList ++ Rows.loadBeginsSpec.plain.varTypes Try.prog) (ds ++ gs)).all (· ≤ reachBytes) = true := hsz0
  have hval : ∀ (j : Nat) t v, Try.f4.params[j]? = some t → args[j]? = some v → Value.okWide Try.prog W .any base t v := hval0
  have hW' := hW
  obtain ⟨p, q, hA0, hV, rfl, hfz, hnd⟩ := hW
  have hA : DataW.TrodAll enc Try.prog W 0 (fun _ => true) true Try.f4.params.toList args.toList ds p := hA0
  rw [Try.params4] at hA hval hsz
  obtain ⟨v0, vs0, d0, ds0, p0, q0, hargs, rfl, rfl, h0, r0⟩ := trodAll_cons hA
  obtain ⟨v1, vs1, d1, ds1, p1, q1, rfl, rfl, rfl, h1, r1⟩ := trodAll_cons r0
  obtain ⟨rfl, rfl, rfl⟩ := trodAll_nil r1
  obtain rfl : args = #[v0, v1] := by cases args; simp_all
  obtain ⟨rfl, rfl⟩ := trodVars_none hV
  have k0 := h0
  have lt0 : ∀ x ∈ p0, x.block < W.heap.size := by obtain ⟨m, hm⟩ := k0; exact DataW.trod_lt m _ _ _ hm
  have hv0 : Value.okWide Try.prog W .any base 22 v0 := (hval 0 22 v0 rfl rfl)
  obtain ⟨a0, rfl, rfl, rfl, w0⟩ := open_int Try.underlying22 hv0 h0
  have k1 := h1
  have lt1 : ∀ x ∈ p1, x.block < W.heap.size := by obtain ⟨m, hm⟩ := k1; exact DataW.trod_lt m _ _ _ hm
  have hv1 : Value.okWide Try.prog W .any base 32 v1 := (hval 1 32 v1 rfl rfl)
  obtain ⟨cs1, rfl, hcs1⟩ : ∃ cs, v1 = .agg cs ∧ cs.size = 3 := by
    unfold Value.okWide at hv1
    rw [Try.underlying32] at hv1
    obtain ⟨cs, rfl, hsz, _⟩ := hv1
    exact ⟨cs, rfl, hsz.trans (by kernel_rfl)⟩
  obtain ⟨c1_0, c1_1, c1_2, rfl⟩ := Joins.array3 hcs1
  obtain ⟨fu1, hf1⟩ := h1
  obtain ⟨xs1, m1, _, _, _, hxl1, hel1⟩ := DataW.trod_array Try.underlying32 hf1
  have hc11 : Try.prog.cellsOf 5 = 1 := by kernel_rfl
  obtain ⟨x1_0, w1_0, rfl⟩ : ∃ x : Int, (Lit.int .u8 x).wf = true ∧ c1_0 = .int .u8 x := by
    have z := hel1 0 (by decide)
    rw [hc11, List.getElem?_eq_getElem (by omega)] at z
    obtain ⟨x, hx, _, hw⟩ := DataW.trod_int Try.underlying5 z
    refine ⟨x, hw, ?_⟩
    simpa [Value.cells] using hx
  obtain ⟨x1_1, w1_1, rfl⟩ : ∃ x : Int, (Lit.int .u8 x).wf = true ∧ c1_1 = .int .u8 x := by
    have z := hel1 1 (by decide)
    rw [hc11, List.getElem?_eq_getElem (by omega)] at z
    obtain ⟨x, hx, _, hw⟩ := DataW.trod_int Try.underlying5 z
    refine ⟨x, hw, ?_⟩
    simpa [Value.cells] using hx
  obtain ⟨x1_2, w1_2, rfl⟩ : ∃ x : Int, (Lit.int .u8 x).wf = true ∧ c1_2 = .int .u8 x := by
    have z := hel1 2 (by decide)
    rw [hc11, List.getElem?_eq_getElem (by omega)] at z
    obtain ⟨x, hx, _, hw⟩ := DataW.trod_int Try.underlying5 z
    refine ⟨x, hw, ?_⟩
    simpa [Value.cells] using hx
  obtain ⟨u0, rfl, hu0⟩ := nat_u8 w1_0
  obtain ⟨u1, rfl, hu1⟩ := nat_u8 w1_1
  obtain ⟨u2, rfl, hu2⟩ := nat_u8 w1_2
  clear hA0 hval0 hsz0
  refine (LoadBegins_walk a0 u0 u1 u2 W hu0 hu1 hu2).mono fun e W' ⟨he, bel⟩ => ?_
  subst he
  exact ⟨_, rfl, _, _, _, [], _, [], hW', trodAll_mk1 (shut_bool Try.underlying4 _), (trodAll_cons_mk (Below.trod laidOut (by kernel_rfl) (of_decide_eq_true (by kernel_rfl)) k0 bel lt0) (trodAll_cons_mk (Below.trod laidOut (by kernel_rfl) (of_decide_eq_true (by kernel_rfl)) k1 bel lt1) trodAll_mk0)), rfl, bel.frame _, fun h => by cases h⟩
theorem over : Rows.loadBeginsRow.holds Try.pinned (OpenSpec.ofChange Rows.loadBeginsSpec) :=
  OpenClaim.holds_of_wide 4 Try.f4 rfl rfl rfl rfl rfl rfl rfl ⟨rfl, rfl, rfl, rfl, rfl⟩ rfl rfl rfl rfl rfl (by kernel_rfl) Try.func4 (by kernel_rfl)
    (of_decide_eq_true (by kernel_rfl)) (by unfold Func.isWrapper; first | (rw [if_pos (by decide +kernel)]; kernel_rfl) | (rw [if_neg (by decide +kernel)]; exact ⟨rfl, rfl⟩))
    (fun os started H enc _ => lifted os started H enc)
theorem proved : Rows.LoadBeginsSaid := over
#print axioms proved
end Go.Proofs.Ytmgcmheiabmajab.loadBegins
namespace Go.Proofs.Ytmgcmheiabmajab
/-- The row, under a short name, for the claim. -/
theorem loadBegins_holds : Rows.LoadBeginsSaid := loadBegins.proved
end Go.Proofs.Ytmgcmheiabmajab
