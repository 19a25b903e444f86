/- An argument's reading, as plain facts of its cells: numbers, texts (with their weight), bools; structs and arrays by field; slices by element. -/
import Derived.OpenShut
import Derived.SizedLaws
import Derived.Deep.Slices
namespace Go.Proofs.Ythafopnaecbjdaa
open Go

/-- What the cells of a type hold, as far as it is plain data. -/
def Rd (P : Program) (w : World) : Nat → TypeId → List Value → Prop
  | 0, _, _ => False
  | n + 1, t, cs => match P.underlying t with
    | some .bool => ∃ b, cs = [.bool b]
    | some (.int k) => ∃ x, cs = [.int k x] ∧ (Lit.int k x).wf = true
    | some .string => ∃ s : ByteArray, cs = [.string s] ∧ s.size ≤ 140737488351232
    | some (.slice e) => cs = [.slice none 0 0] ∨ ∃ (a : Addr) (len cap : Nat), cs = [.slice (some a) len cap] ∧ len ≤ cap ∧ cap ≤ maxLen ∧ len * P.bytesOf e ≤ 140737488351232 ∧
        ∀ i, i < len → ∃ cs', w.cells? 0 (a.add (i * P.cellsOf e)) (P.cellsOf e) = some cs' ∧ Rd P w n e cs'
    | some (.struct fs) => cs.length = P.cellsOf t ∧ ∀ (i : Nat) (f : Field), fs[i]? = some f → Rd P w n f.type ((cs.drop f.offset).take (P.cellsOf f.type))
    | some (.array m e) => cs.length = P.cellsOf t ∧ ∀ i, i < m → Rd P w n e ((cs.drop (i * P.cellsOf e)).take (P.cellsOf e))
    | _ => True

section
variable {P : Program} {w : World} {n : Nat} {t : TypeId} {cs : List Value}
theorem Rd.pos (h : Rd P w n t cs) : ∃ m, n = m + 1 := by
  cases n with
  | zero => exact absurd h (by simp [Rd])
  | succ m => exact ⟨m, rfl⟩
theorem Rd.bool (ht : P.underlying t = some .bool) (h : Rd P w n t cs) : ∃ b, cs = [.bool b] := by
  obtain ⟨m, rfl⟩ := h.pos
  simpa [Rd, ht] using h
theorem Rd.int {k : IntKind} (ht : P.underlying t = some (.int k)) (h : Rd P w n t cs) : ∃ x, cs = [.int k x] ∧ (Lit.int k x).wf = true := by
  obtain ⟨m, rfl⟩ := h.pos
  simpa [Rd, ht] using h
theorem Rd.str (ht : P.underlying t = some .string) (h : Rd P w n t cs) : ∃ s : ByteArray, cs = [.string s] ∧ s.size ≤ 140737488351232 := by
  obtain ⟨m, rfl⟩ := h.pos
  simpa [Rd, ht] using h
theorem Rd.slice {e : TypeId} (ht : P.underlying t = some (.slice e)) (h : Rd P w n t cs) : cs = [.slice none 0 0] ∨ ∃ (a : Addr) (len cap m : Nat), cs = [.slice (some a) len cap] ∧ len ≤ cap ∧ cap ≤ maxLen ∧ len * P.bytesOf e ≤ 140737488351232 ∧
    ∀ i, i < len → ∃ cs', w.cells? 0 (a.add (i * P.cellsOf e)) (P.cellsOf e) = some cs' ∧ Rd P w m e cs' := by
  obtain ⟨m, rfl⟩ := h.pos
  simp only [Rd, ht] at h
  rcases h with h | ⟨a, len, cap, h⟩
  · exact .inl h
  · exact .inr ⟨a, len, cap, m, h⟩
theorem Rd.struct {fs : Array Field} (ht : P.underlying t = some (.struct fs)) (h : Rd P w n t cs) : cs.length = P.cellsOf t ∧ ∃ m, ∀ (i : Nat) (f : Field), fs[i]? = some f → Rd P w m f.type ((cs.drop f.offset).take (P.cellsOf f.type)) := by
  obtain ⟨m, rfl⟩ := h.pos
  simp only [Rd, ht] at h
  exact ⟨h.1, m, h.2⟩
theorem Rd.field {fs : Array Field} {m : Nat} (hf : ∀ (i : Nat) (f : Field), fs[i]? = some f → Rd P w m f.type ((cs.drop f.offset).take (P.cellsOf f.type))) (i : Nat) {t : TypeId} {off k : Nat} (hi : (fs[i]?).map (fun f => (f.type, f.offset)) = some (t, off)) (hc : P.cellsOf t = k) :
    Rd P w m t ((cs.drop off).take k) := by
  obtain ⟨f, hf1, hf2⟩ := Option.map_eq_some_iff.1 hi
  simp only [Prod.mk.injEq] at hf2
  obtain ⟨rfl, rfl⟩ := hf2
  subst hc
  exact hf i f hf1
theorem Rd.array {m : Nat} {e : TypeId} (ht : P.underlying t = some (.array m e)) (h : Rd P w n t cs) : cs.length = P.cellsOf t ∧ ∃ n', ∀ i, i < m → Rd P w n' e ((cs.drop (i * P.cellsOf e)).take (P.cellsOf e)) := by
  obtain ⟨m', rfl⟩ := h.pos
  simp only [Rd, ht] at h
  exact ⟨h.1, m', h.2⟩
end

section
variable {H : Type} {enc : TypeId × Value → H} {P : Program} {w : World} {spare : Nat → Bool} {held : Bool}

theorem weights_each {ts : List TypeId} {ds : List (DataW H)} {i : Nat} {t : TypeId} {d : DataW H} (ht : ts[i]? = some t) (hd : ds[i]? = some d) {n : Nat} (h : n ∈ d.weights P t) : n ∈ DataW.weightsEach P ts ds :=
  DataW.weights_mem_each ht hd n h
theorem weights_all {e : TypeId} : ∀ {ds : List (DataW H)} {d : DataW H}, d ∈ ds → ∀ {n : Nat}, n ∈ d.weights P e → n ∈ DataW.weightsAll P e ds
  | d0 :: ds, d, hd, n, hn => by
    simp only [DataW.weightsAll, List.mem_append]
    rcases List.mem_cons.1 hd with rfl | h
    · exact .inl hn
    · exact .inr (weights_all h hn)

theorem Rd.of_trod : ∀ {fuel : Nat} {t : TypeId} {cs : List Value} {x : DataW H × List MemPlace}, DataW.trod enc P w 0 spare held fuel t cs = some x → (∀ n ∈ x.1.weights P t, n ≤ 140737488351232) → Rd P w fuel t cs
  | 0, _, _, _, h, _ => by simp [DataW.trod] at h
  | n + 1, t, cs, x, h, hw => by
    unfold Rd
    split
    · next hu => obtain ⟨b, hb, _⟩ := DataW.trod_bool hu h; exact ⟨b, hb⟩
    · next k hu => obtain ⟨b, hb, _, hwf⟩ := DataW.trod_int hu h; exact ⟨b, hb, hwf⟩
    · next hu =>
      obtain ⟨s, hs, rfl, _⟩ := DataW.trod_string hu h
      refine ⟨s, hs, ?_⟩
      have := hw s.data.toList.length (by simp [DataW.weights])
      simpa using this
    · next e hu =>
      rcases DataW.trod_slice hu h with ⟨h0, _⟩ | ⟨a, len, cap, elems, rest, m, hm, rfl, rfl, _, hl, hc, hel, hall, _, _⟩
      · exact .inl h0
      · have hm' : n = m := by omega
        subst hm'
        refine .inr ⟨a, len, cap, rfl, hl, hc, ?_, fun i hi => ?_⟩
        · have := hw ((elems.length + rest.length) * P.bytesOf e) (by simp [DataW.weights, hu])
          refine Nat.le_trans (Nat.mul_le_mul_right _ ?_) this
          omega
        · have hi2 := hall i hi
          have hil : i < elems.length := by omega
          rw [List.getElem?_eq_getElem hil] at hi2
          obtain ⟨cs', h1, h2⟩ := Option.bind_eq_some_iff.1 hi2
          refine ⟨cs', h1, Rd.of_trod h2 fun k hk => hw k ?_⟩
          simp only [DataW.weights, hu, List.mem_cons, List.mem_append]
          exact .inr (.inl (weights_all (List.mem_map.2 ⟨_, List.getElem_mem hil, rfl⟩) hk))
    · next fs hu =>
      obtain ⟨xs, m, hm, rfl, hl, hlen, hf⟩ := DataW.trod_struct hu h
      have hm' : n = m := by omega
      subst hm'
      refine ⟨hl, fun i f hi => ?_⟩
      have hfi := hf i f hi
      have hil : i < fs.size := (Array.getElem?_eq_some_iff.1 hi).1
      rw [List.getElem?_eq_getElem (by omega : i < xs.length)] at hfi
      refine Rd.of_trod hfi fun k hk => hw k ?_
      simp only [DataW.weights, hu]
      refine weights_each (i := i) (t := f.type) (d := (xs[i]'(by omega)).1) ?_ ?_ hk
      · rw [List.getElem?_map, Array.getElem?_toList, hi]; rfl
      · rw [List.getElem?_map, List.getElem?_eq_getElem (by omega : i < xs.length)]; rfl
    · next m e hu =>
      obtain ⟨xs, m', hm, rfl, hl, hlen, hf⟩ := DataW.trod_array hu h
      have hm' : n = m' := by omega
      subst hm'
      refine ⟨hl, fun i hi => ?_⟩
      have hfi := hf i hi
      rw [List.getElem?_eq_getElem (by omega : i < xs.length)] at hfi
      refine Rd.of_trod hfi fun k hk => hw k ?_
      simp only [DataW.weights, hu]
      exact weights_all (List.mem_map.2 ⟨_, List.getElem_mem (by omega : i < xs.length), rfl⟩) hk
    · trivial

/-- An argument of a call, out of what the row hands. -/
theorem Rd.of_arg {ts : List TypeId} {ds : List (DataW H)} (h : (DataW.weightsEach P ts ds).all (· ≤ reachBytes) = true) {j : Nat} {t : TypeId} {v : Value} {d : DataW H} {p : List MemPlace} (ht : ts[j]? = some t) (hd : ds[j]? = some d)
    (hk : DataW.Trod enc P w 0 spare held t v d p) : ∃ n, Rd P w n t v.cells.toList := by
  obtain ⟨fuel, hf⟩ := hk
  refine ⟨fuel, Rd.of_trod hf fun n hn => ?_⟩
  have := List.all_eq_true.1 h _ (DataW.weights_mem_each ht hd n hn)
  exact of_decide_eq_true this
end
end Go.Proofs.Ythafopnaecbjdaa
