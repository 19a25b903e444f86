/- What a session does, as plain functions: a key's value, groups of kinds, a step. No program in sight. -/
import Derived.WalkKit
namespace Go.Proofs.Ythommlfigdjehaa

def valF : List ByteArray → List ByteArray → ByteArray → ByteArray
  | k :: K, v :: V, key => if k = key then v else valF K V key
  | _, _, _ => ⟨#[]⟩
theorem valF_hit {K V : List ByteArray} {key : ByteArray} {i : Nat} {k v : ByteArray} (hk : K[i]? = some k) (hv : V[i]? = some v) (h : k = key) : valF (K.drop i) (V.drop i) key = v := by
  have h1 := List.drop_eq_getElem_cons (List.getElem?_eq_some_iff.1 hk).1
  have h2 := List.drop_eq_getElem_cons (List.getElem?_eq_some_iff.1 hv).1
  rw [h1, h2, (List.getElem?_eq_some_iff.1 hk).2, (List.getElem?_eq_some_iff.1 hv).2]
  simp [valF, h]
theorem valF_miss {K V : List ByteArray} {key : ByteArray} {i : Nat} {k : ByteArray} (hk : K[i]? = some k) (h : k ≠ key) : valF (K.drop i) (V.drop i) key = valF (K.drop (i + 1)) (V.drop (i + 1)) key := by
  have h1 := List.drop_eq_getElem_cons (List.getElem?_eq_some_iff.1 hk).1
  rw [h1, (List.getElem?_eq_some_iff.1 hk).2]
  by_cases hv : i < V.length
  · rw [List.drop_eq_getElem_cons hv]; simp [valF, h]
  · rw [List.drop_eq_nil_of_le (by omega : V.length ≤ i), List.drop_eq_nil_of_le (by omega : V.length ≤ i + 1)]
    cases K.drop (i + 1) <;> simp [valF]
theorem valF_end {K V : List ByteArray} {key : ByteArray} {i : Nat} (h : K.length ≤ i ∨ V.length ≤ i) : valF (K.drop i) (V.drop i) key = ⟨#[]⟩ := by
  rcases h with h | h
  · rw [List.drop_eq_nil_of_le h]; simp [valF]
  · rw [List.drop_eq_nil_of_le h]; cases K.drop i <;> simp [valF]
theorem valF_mem {K V : List ByteArray} {key : ByteArray} : valF K V key = ⟨#[]⟩ ∨ valF K V key ∈ V := by
  induction K generalizing V with
  | nil => simp [valF]
  | cons k K ih =>
    cases V with
    | nil => simp [valF]
    | cons v V =>
      unfold valF
      split
      · simp
      · rcases ih (V := V) with h | h
        · exact .inl h
        · exact .inr (List.mem_cons_of_mem _ h)

def grp (k : Int) : Int := if k = 80 ∨ k = 66 ∨ k = 68 ∨ k = 69 ∨ k = 67 ∨ k = 72 then 80 else if k = 112 ∨ k = 81 ∨ k = 83 ∨ k = 88 then k else 0
/-- What is done, the error, the phase then, by phase (from 2 on) and kind. -/
def stepK (ph k : Int) : Int × Int × Int :=
  if ph = 2 then (if k = 112 then (2, 0, 2) else (9, 10, 7))
  else if ph = 7 then (0, 10, 7)
  else if k = 88 then (9, 0, 7)
  else if ph = 4 then (6, 0, 4)
  else if k = 83 then (5, 0, 3)
  else if ph = 6 then (7, 0, 6)
  else if k = 81 then (3, 0, 4)
  else if k = 80 ∨ k = 66 ∨ k = 68 ∨ k = 69 ∨ k = 67 ∨ k = 72 then (4, 0, 5)
  else (9, 10, 7)
def userB : ByteArray := ⟨#[117, 115, 101, 114]⟩
def dbB : ByteArray := ⟨#[100, 97, 116, 97, 98, 97, 115, 101]⟩
/-- What is done ahead of all. -/
def firstF (u d : ByteArray) (k : Int) (c : Bool) (K V : List ByteArray) : Int × Int × Int × ByteArray × ByteArray :=
  if k ≠ 0 ∨ (c = false ∧ valF K V userB = ⟨#[]⟩) then (9, 4, 7, u, d)
  else if c = true then (8, 0, 7, u, d)
  else (1, 0, 2, valF K V userB, if valF K V dbB = ⟨#[]⟩ then valF K V userB else valF K V dbB)
def stepF (ph : Int) (u d : ByteArray) (k : Int) (c : Bool) (K V : List ByteArray) : Int × Int × Int × ByteArray × ByteArray :=
  if ph = 1 then firstF u d k c K V else ((stepK ph k).1, (stepK ph k).2.1, (stepK ph k).2.2, u, d)
theorem stepK_phase (ph k : Int) (_ : 2 ≤ ph ∧ ph ≤ 7) : 2 ≤ (stepK ph k).2.2 ∧ (stepK ph k).2.2 ≤ 7 := by
  unfold stepK; repeat' split
  all_goals simp
theorem stepF_phase {ph : Int} {u d : ByteArray} {k : Int} {c : Bool} {K V : List ByteArray} {n e ph' : Int} {u' d' : ByteArray} (h : stepF ph u d k c K V = (n, e, ph', u', d')) (hp : 1 ≤ ph ∧ ph ≤ 7) : 2 ≤ ph' ∧ ph' ≤ 7 := by
  unfold stepF at h
  split at h
  · unfold firstF at h
    repeat' split at h
    all_goals (simp only [Prod.mk.injEq] at h; omega)
  · simp only [Prod.mk.injEq] at h
    have := stepK_phase ph k (by omega)
    omega
theorem stepF_later {ph : Int} {u d : ByteArray} {k : Int} {c : Bool} {K V : List ByteArray} (h : 2 ≤ ph) : stepF ph u d k c K V = ((stepK ph k).1, (stepK ph k).2.1, (stepK ph k).2.2, u, d) := by
  unfold stepF; rw [if_neg (by omega)]
end Go.Proofs.Ythommlfigdjehaa
