/- == of two structs, field by field, as one Bool. -/
import Derived.WalkKit
import Derived.Laws.StructEq
namespace Go.Proofs.Ytmgcmheiabmajab
open Go
section
variable {P : Program} {w : World} {d : Nat} {xs ys : Array Value}
theorem eqF_nil : (Op.eqFields d xs ys []).run P w = .ok true w := rfl
theorem eqF_step {f : Field} {fs : List Field} {a b : Value} {r s : Bool} (hn : (f.name == "_") = false) (ha : (part f.type xs f.offset).run P w = .ok a w) (hb : (part f.type ys f.offset).run P w = .ok b w)
    (he : (Op.equalIn d f.type a b).run P w = .ok r w) (hr : (Op.eqFields d xs ys fs).run P w = .ok s w) : (Op.eqFields d xs ys (f :: fs)).run P w = .ok (r && s) w := by
  have hn' : f.name ≠ "_" := fun e => by rw [e] at hn; exact absurd hn (by decide)
  unfold Op.eqFields
  rw [if_pos hn', Sem.run_bind, ha]
  simp only [Result.andThen_ok, Sem.run_bind]
  rw [hb]
  simp only [Result.andThen_ok]
  rw [he]
  cases r with
  | false => simp
  | true => simpa using hr
theorem eqF_of {t : TypeId} {fs : Array Field} {r : Bool} (hu : P.underlying t = some (.struct fs)) (hp : P.stoodInHeld t = false) (h : (Op.eqFields d xs ys fs.toList).run P w = .ok r w) : (Op.equalIn (d + 1) t (.agg xs) (.agg ys)).run P w = .ok r w := by
  have hf : P.fieldsOf t = fs := by unfold Program.fieldsOf; rw [hu]
  rw [run_equalIn_struct (P := P) w d t xs ys (by rw [hf]; exact hu) hp, hf]
  exact h
end
theorem bytes_beq (a b : ByteArray) : (a.toList == b.toList) = decide (a = b) := by
  rw [ByteArray.toList_eq, ByteArray.toList_eq]
  obtain ⟨⟨x⟩⟩ := a
  obtain ⟨⟨y⟩⟩ := b
  rw [Bool.eq_iff_iff]
  simp
end Go.Proofs.Ytmgcmheiabmajab
