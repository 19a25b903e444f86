/- expiry's laws: arguments, Set with any time, rows that stay. -/
import Derived.Test.YthafopnaecbjdaaExC
import Derived.Test.YthafopnaecbjdaaRow
namespace Go.Proofs.Ythafopnaecbjdaa
open Go Go.RowKit Go.Maps Go.WideShapes Go.Proofs.Ythafopnaecbjdaa.Pa Go.Proofs.YthafopnaecbjdaaW.PrintWords Go.Proofs.YthafopnaecbjdaaW.PrintLast

def txtC (s : ByteArray) : List Value := [.string s]
structure OpE where
  kind : Int
  key : ByteArray
  at_ : Int
def opEC (o : OpE) : List Value := [.int .i64 o.kind, .string o.key, .int .i64 o.at_]
theorem texts_arg {w : World} {m base : Nat} {v : Value} (hv : Value.okWide Try.prog w .any base 35 v) (h : Rd Try.prog w m 35 v.cells.toList) :
    ∃ A n cp l, v = .slice A n cp ∧ RowG txtC 1 w A n l ∧ n ≤ maxLen := by
  obtain ⟨A, n, cp, rfl⟩ := okWide_slice Try.underlying35 hv
  obtain ⟨A', n', cp', l, he, h1, h2, h3, h4, _⟩ := RowG.of_rd (enc := txtC) (k := 1) (G := fun _ => True) Try.underlying35 (by kernel_rfl) (by decide) (fun m cs' h => by
    obtain ⟨x, rfl, hx⟩ := h.str Try.underlying9
    exact ⟨x, rfl, trivial⟩) h
  simp [Value.cells] at he
  obtain ⟨rfl, rfl, rfl⟩ := he
  exact ⟨A, n, cp, l, rfl, h1, Nat.le_trans h3 h4⟩
theorem ops_arg {w : World} {m base : Nat} {v : Value} (hv : Value.okWide Try.prog w .any base 22 v) (h : Rd Try.prog w m 22 v.cells.toList) :
    ∃ A n cp l, v = .slice A n cp ∧ RowG opEC 3 w A n l ∧ n ≤ maxLen := by
  obtain ⟨A, n, cp, rfl⟩ := okWide_slice Try.underlying22 hv
  obtain ⟨A', n', cp', l, he, h1, h2, h3, h4, _⟩ := RowG.of_rd (enc := opEC) (k := 3) (G := fun _ => True) Try.underlying22 (by kernel_rfl) (by decide) (fun m cs' h => by
    obtain ⟨hl, m', hf⟩ := h.struct Try.underlying30
    obtain ⟨a, ha, _⟩ := (Rd.field hf 0 (t := 3) (off := 0) (k := 1) rfl (by kernel_rfl)).int Try.underlying3
    obtain ⟨b, hb, _⟩ := (Rd.field hf 1 (t := 9) (off := 1) (k := 1) rfl (by kernel_rfl)).str Try.underlying9
    obtain ⟨c, hc, _⟩ := (Rd.field hf 2 (t := 3) (off := 2) (k := 1) rfl (by kernel_rfl)).int Try.underlying3
    have hl3 : cs'.length = 3 := hl.trans (by kernel_rfl)
    match cs', hl3 with
    | [x, y, z], _ =>
      simp at ha hb hc
      exact ⟨⟨a, b, c⟩, by rw [ha, hb, hc]; rfl, trivial⟩) h
  simp [Value.cells] at he
  obtain ⟨rfl, rfl, rfl⟩ := he
  exact ⟨A, n, cp, l, rfl, h1, Nat.le_trans h3 h4⟩
theorem u16_of {x : Int} (h : (Lit.int .u16 x).wf = true) : 0 ≤ x ∧ x ≤ 65535 := by
  simp [Lit.wf, IntKind.min, IntKind.max, IntKind.bits, IntKind.signed] at h
  omega
theorem good100 {k : ByteArray} (h : k.size ≤ 100) : goodS k := by unfold goodS maxLen; omega
theorem good47 {k : ByteArray} (h : k.size ≤ 140737488351232) : goodS k := by unfold goodS maxLen; omega

/-! ### Set with any time -/
def okT (n : Int) : Prop := 0 ≤ n ∧ n ≤ 1099511627776
instance (n : Int) : Decidable (okT n) := by unfold okT; exact inferInstance
def errN (n : Int) : Int := if okT n then 0 else 1
def S1 (L : List It) (sets : Int) (k : ByteArray) (n : Int) : List It × Int := if okT n then (putL L k n sets, sets + 1) else (L, sets)
theorem S1_len (L : List It) (sets : Int) (k : ByteArray) (n : Int) : (S1 L sets k n).1.length ≤ L.length + 1 ∧ (S1 L sets k n).2 ≤ sets + 1 ∧ sets ≤ (S1 L sets k n).2 := by
  unfold S1
  split
  · refine ⟨?_, Int.le_refl _, by show sets ≤ sets + 1; omega⟩
    have h1 := (ins_perm (dropL L k) ⟨k, n, sets + 1⟩).length_eq
    have h2 : (dropL L k).length ≤ L.length := List.length_filter_le _ _
    show (putL L k n sets).length ≤ _
    unfold putL
    rw [h1, List.length_cons]
    omega
  · exact ⟨by show L.length ≤ _; omega, by show sets ≤ _; omega, Int.le_refl _⟩
section
variable {w w1 : World} {p mb : Nat} {hv : Value} {L : List It} {sets : Int}
def SetG (w w1 : World) (p mb : Nat) (hv : Value) (L : List It) (sets : Int) (k : ByteArray) (n : Int) (e : Ending) (w' : World) : Prop := e = .returned (.int .i64 (errN n)) ∧ ∃ hv', QS w w' p mb hv' (S1 L sets k n).1 (S1 L sets k n).2 ∧ Touch (Foot p mb hv) w1 w' ∧ ∀ j ∈ Foot p mb hv', j ∈ Foot p mb hv ∨ w1.heap.size ≤ j
theorem set_gen (h : QS w w1 p mb hv L sets) (k : ByteArray) (hk : goodS k) (n : Int) (hs0 : 0 ≤ sets) (hs1 : sets ≤ 1000) (hlen : L.length < 100) : Calls Try.prog 9 #[.pointer (some ⟨p, 0, none⟩), .string k, .int .i64 n] w1 (SetG w w1 p mb hv L sets k n) := by
  by_cases hn : okT n
  · refine (set_any h.q k hk n hn.1 hn.2 hs0 hs1 hlen).mono ?_
    rintro e w' ⟨rfl, hv', q, f, t⟩
    refine ⟨by unfold errN; rw [if_pos hn], hv', ⟨by unfold S1; rw [if_pos hn]; exact q, fun j hj => ?_, h.b.trans (t.below h.b.size h.f)⟩, t, f⟩
    rcases f j hj with h1 | h1
    · exact h.f j h1
    · have := h.b.size; omega
  · refine (set_bad h.q k n (by unfold okT at hn; omega)).mono ?_
    rintro e w' ⟨rfl, rfl⟩
    exact ⟨by unfold errN; rw [if_neg hn], hv, ⟨by unfold S1; rw [if_neg hn]; exact h.q, h.f, h.b⟩, Touch.refl _ _, fun j hj => .inl hj⟩
/-- A row beside a queue. -/
structure RowB (w w1 : World) (p mb : Nat) (hv v : Value) (l : List ByteArray) : Prop where
  r : RowT w1 v l
  n : ∀ i, v.ownBlock = some i → i ∉ Foot p mb hv
  f : ∀ i, v.ownBlock = some i → w.heap.size ≤ i
theorem RowB.nil (w w1 : World) (p mb : Nat) (hv : Value) : RowB w w1 p mb hv (.slice none 0 0) [] := ⟨RowT.nil _, fun i h => (by cases h), fun i h => (by cases h)⟩
theorem RowB.keep {v : Value} {l : List ByteArray} {w2 : World} {hv' : Value} (h : RowB w w1 p mb hv v l) (t : Touch (Foot p mb hv) w1 w2) (f : ∀ j ∈ Foot p mb hv', j ∈ Foot p mb hv ∨ w1.heap.size ≤ j) : RowB w w2 p mb hv' v l :=
  ⟨h.r.touch t h.n, fun i hi hm => by
    rcases f i hm with h1 | h1
    · exact h.n i hi h1
    · have := h.r.lt i hi; omega, h.f⟩
theorem RowB.touch {v : Value} {l : List ByteArray} {w2 : World} (h : RowB w w1 p mb hv v l) (t : Touch [] w1 w2) : RowB w w2 p mb hv v l := ⟨h.r.touch t (by simp), h.n, h.f⟩
theorem RowB.below {v : Value} {l : List ByteArray} {w2 : World} (h : RowB w w1 p mb hv v l) (b : Below w1.heap.size w1 w2) : RowB w w2 p mb hv v l := h.touch (Touch.of_below b)
theorem RowT.at {w : World} {v : Value} {l : List ByteArray} (h : RowT w v l) (j : Nat) (x : ByteArray) (hj : l[j]? = some x) : ∃ g c, v = .slice (some ⟨g, 0, none⟩) l.length c ∧ w.cell? ⟨g, j, none⟩ = some (.string x) := by
  have hc := fun g => h.cells (g := g)
  have hlt := (List.getElem?_eq_some_iff.1 hj).1
  rcases h.2 with ⟨rfl, h0⟩ | ⟨g, cap, cur, rfl, _, hg, hle, _⟩
  · omega
  · refine ⟨g, cap, rfl, ?_⟩
    have := hc g rfl j (.string x) (by unfold strs; rw [List.getElem?_map, hj]; rfl)
    rw [add_plain, Nat.zero_add] at this
    exact this
end

/-! ### one time for all -/
theorem same_put {L : List It} {k : ByteArray} {a s : Int} (h : ∀ x ∈ L, x.at_ = a) : keysL (putL L k a s) = (keysL L).filter (fun y => decide (y ≠ k)) ++ [k] ∧ ∀ x ∈ putL L k a s, x.at_ = a := by
  have hd : ∀ x ∈ dropL L k, x.at_ = a := fun x hx => h x (List.mem_filter.1 hx).1
  have h1 : (dropL L k).takeWhile (fun y => decide (y.at_ ≤ a)) = dropL L k ∧ (dropL L k).dropWhile (fun y => decide (y.at_ ≤ a)) = [] := soon_split (now := a) (L1 := dropL L k) (L2 := []) (by simp) (fun x hx => by rw [hd x hx]; exact Int.le_refl _) (.inl rfl)
  have e : putL L k a s = dropL L k ++ [⟨k, a, s + 1⟩] := by
    unfold putL insI
    show (dropL L k).takeWhile (fun y => decide (y.at_ ≤ a)) ++ _ :: (dropL L k).dropWhile (fun y => decide (y.at_ ≤ a)) = _
    rw [h1.1, h1.2]
  refine ⟨?_, fun x hx => ?_⟩
  · rw [e]
    unfold keysL dropL
    rw [List.map_append, List.filter_map]
    rfl
  · rw [e] at hx
    rcases List.mem_append.1 hx with hx | hx
    · exact hd x hx
    · rw [List.mem_singleton.1 hx]
end Go.Proofs.Ythafopnaecbjdaa
