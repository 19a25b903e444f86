/- A queue's Drop and Due, over its keys in order. -/
import Derived.Test.YthafopnaecbjdaaEx7
import Derived.Test.YthafopnaecbjdaaApp
namespace Go.Proofs.Ythafopnaecbjdaa
open Go Go.RowKit Go.Maps Go.Proofs.YthafopnaecbjdaaW.PrintWords Go.Proofs.YthafopnaecbjdaaW.PrintLast

/-! ### a row of texts -/
def strs (l : List ByteArray) : List Value := l.map Value.string
def RowT (w : World) (v : Value) (l : List ByteArray) : Prop := w.ownsRow 0 9 1 v l.length (strs l)
theorem RowT.nil (w : World) : RowT w (.slice none 0 0) [] := World.ownsRow_nil _ _ _ _
theorem RowT.touch {w w' : World} {v : Value} {l : List ByteArray} {S : List Nat} (h : RowT w v l) (t : Touch S w w') (hs : ∀ i, v.ownBlock = some i → i ∉ S) : RowT w' v l := own_touch' h t hs
theorem RowT.below {w w' : World} {v : Value} {l : List ByteArray} (h : RowT w v l) (t : Below w.heap.size w w') : RowT w' v l := h.touch (Touch.of_below t) (by simp)
theorem RowT.slice {w : World} {v : Value} {l : List ByteArray} (h : RowT w v l) : ∃ A c, v = .slice A l.length c := own_slice2 h
theorem RowT.lt {w : World} {v : Value} {l : List ByteArray} (h : RowT w v l) : ∀ i, v.ownBlock = some i → i < w.heap.size := by
  intro i hi
  rcases h.2 with ⟨rfl, _⟩ | ⟨g, cap, cur, rfl, _, hg, _⟩
  · cases hi
  · simp only [Value.ownBlock, Option.some.injEq] at hi
    subst hi
    exact heap_lt hg
theorem RowT.C {w : World} {v : Value} {l : List ByteArray} (h : RowT w v l) : ∃ A c, v = .slice A l.length c ∧ Kd.C Kd.string w A l.length l ∧ l.length ≤ c := by
  have hc := fun g => h.cells (g := g)
  rcases h.2 with ⟨rfl, h0⟩ | ⟨g, cap, cur, rfl, _, hg, hle, hmx, _⟩
  · exact ⟨none, 0, by rw [h0], Kd.C_of_reads (d := ⟨#[]⟩) ⟨rfl, by omega, fun hp => by omega⟩, by omega⟩
  · refine ⟨_, cap, rfl, Kd.C_of_reads (d := ⟨#[]⟩) ⟨rfl, by unfold maxLen at hmx; omega, fun hp => ⟨_, rfl, fun j hj => hc g rfl j _ ?_⟩⟩, hle⟩
    unfold strs
    rw [List.getElem?_map, List.getElem?_eq_getElem hj, List.getD_eq_getElem?_getD, List.getElem?_eq_getElem hj]
    rfl
theorem infoT : (Try.prog.info? 9).map (fun i => (i.zero, i.size, i.bytes)) = some (some (.string (⟨#[]⟩ : ByteArray)), 1, 16) := by kernel_rfl
theorem info_t {o : Option TypeInfo} {z : Option Value} {s b : Nat} (h : o.map (fun i => (i.zero, i.size, i.bytes)) = some (z, s, b)) : ∃ i, o = some i ∧ i.zero = z ∧ i.size = s ∧ i.bytes = b := by
  obtain ⟨i, h1, h2⟩ := Option.map_eq_some_iff.1 h
  simp only [Prod.mk.injEq] at h2
  exact ⟨i, h1, h2.1, h2.2.1, h2.2.2⟩

/-! ### a queue over its keys in order -/
structure QL (w : World) (p mb : Nat) (hv : Value) (L : List It) (sets : Int) : Prop where
  ex : ∃ H, QP w p mb hv H sets ∧ HpI H ∧ H.Perm L
  ord : Ord L
  nums : ∀ x ∈ L, x.num ≤ sets
  ats : ∀ x ∈ L, 0 ≤ x.at_ ∧ x.at_ ≤ 1099511627776
  len : L.length ≤ 100
section
variable {w w' : World} {p mb : Nat} {hv : Value} {L : List It} {sets : Int}
theorem QL.kept (h : QL w p mb hv L sets) {S : List Nat} (t : Touch S w w') (hs : ∀ i ∈ Foot p mb hv, i ∉ S) : QL w' p mb hv L sets := by
  obtain ⟨H, a, b⟩ := h.ex
  exact ⟨⟨H, a.kept t hs, b⟩, h.ord, h.nums, h.ats, h.len⟩
theorem QL.below (h : QL w p mb hv L sets) (k : Below w.heap.size w w') : QL w' p mb hv L sets := h.kept (Touch.of_below k) (by simp)
theorem QL.foot_lt (h : QL w p mb hv L sets) : ∀ i ∈ Foot p mb hv, i < w.heap.size := by
  obtain ⟨H, a, _⟩ := h.ex
  exact a.foot_lt
def Keyed1 (L : List It) : Prop := L.Pairwise fun a b => a.key ≠ b.key
theorem Places.pw {P : List (ByteArray × Value)} {H : List It} (h : Places P H) : Keyed1 H := by
  have := h.nodup
  rw [List.Nodup, List.pairwise_map] at this
  exact this
theorem QL.keyed (h : QL w p mb hv L sets) : Keyed1 L := by
  obtain ⟨H, ⟨P, _, b⟩, _, hp⟩ := h.ex
  exact (hp.pairwise_iff (fun h => Ne.symm h)).1 b.pw
def dropL (L : List It) (k : ByteArray) : List It := L.filter fun y => decide (y.key ≠ k)
def hasL (L : List It) (k : ByteArray) : Bool := L.any fun y => decide (y.key = k)
theorem hasL_iff (L : List It) (k : ByteArray) : hasL L k = true ↔ ∃ y ∈ L, y.key = k := by
  unfold hasL
  rw [List.any_eq_true]
  exact ⟨fun ⟨x, h, e⟩ => ⟨x, h, of_decide_eq_true e⟩, fun ⟨x, h, e⟩ => ⟨x, h, decide_eq_true e⟩⟩
theorem hasL_not {L : List It} {k : ByteArray} (h : ∀ y ∈ L, y.key ≠ k) : hasL L k = false ∧ dropL L k = L := by
  refine ⟨Bool.eq_false_iff.2 fun e => ?_, List.filter_eq_self.2 fun y hy => decide_eq_true (h y hy)⟩
  obtain ⟨y, hy, e⟩ := (hasL_iff L k).1 e
  exact h y hy e
theorem Places.find {P : List (ByteArray × Value)} {H : List It} (h : Places P H) (k : ByteArray) : (∃ j, j < H.length ∧ (atI H j).key = k ∧ mget P k = some (.int .i64 j)) ∨ ((∀ x ∈ H, x.key ≠ k) ∧ mget P k = none) := by
  by_cases hm : ∀ x ∈ H, x.key ≠ k
  · exact .inr ⟨hm, h.miss k hm⟩
  · simp only [Classical.not_forall] at hm
    obtain ⟨x, hx, he⟩ := hm
    have he := Classical.not_not.1 he
    obtain ⟨j, hj⟩ := List.mem_iff_getElem?.1 hx
    obtain ⟨h1, h2⟩ := at_of hj
    refine .inl ⟨j, h1, by rw [h2]; exact he, ?_⟩
    have := h.hit j x hj
    rw [he] at this
    exact this
theorem QL.drop (h : QL w p mb hv L sets) {H : List It} {w' : World} {hv' : Value} (hp : H.Perm L) (hh : HpI H) {j : Nat} (hj : j < H.length) {k : ByteArray} (hk : (atI H j).key = k) (q : QP w' p mb hv' (remI H j) sets) : QL w' p mb hv' (dropL L k) sets := by
  have h1 := rem_filter hh hp h.keyed hj
  rw [hk] at h1
  refine ⟨⟨_, q, (remI_ok hh hj).1, h1⟩, h.ord.filter _, fun x hx => h.nums x (List.mem_filter.1 hx).1, fun x hx => h.ats x (List.mem_filter.1 hx).1, Nat.le_trans (List.length_filter_le _ _) h.len⟩
def DropP (w : World) (p mb : Nat) (hv : Value) (L : List It) (sets : Int) (k : ByteArray) (e : Ending) (w' : World) : Prop :=
  e = .returned (.bool (hasL L k)) ∧ ∃ hv', QL w' p mb hv' (dropL L k) sets ∧ hv'.ownBlock = hv.ownBlock ∧ Touch (Foot p mb hv) w w'
set_option maxHeartbeats 2000000 in
theorem drop_any (h : QL w p mb hv L sets) (k : ByteArray) (hk : goodS k) : Calls Try.prog 11 #[.pointer (some ⟨p, 0, none⟩), .string k] w (DropP w p mb hv L sets k) := by
  have HL := Lib.hid h
  obtain ⟨H, ⟨P, a, b⟩, hh, hp⟩ := h.ex
  have HT := Lib.hid (ethere_any a)
  obtain ⟨_, c1, _⟩ := a.cells
  have HLEN : Hid (H.length = L.length) := Lib.hid hp.length_eq
  rcases b.find k with ⟨j, hj, hjk, hm⟩ | ⟨hno, hm⟩
  · have hl := a.map.look_hit encS Try.underlying47 hk hm true
    simp only [if_true, strV] at hl
    obtain ⟨hb, cp, e1, _⟩ := a.at j _ (of_at hj)
    have HR := Lib.hid (remove_any (i := j) (n := H.length) (hb := hb) (cp := cp) (H := H) (w := w) (p := p) (mb := mb) (sets := sets) ⟨P, by rw [← e1]; exact a, b⟩ rfl (by rw [HLEN.out]; exact h.len) hj)
    have HF : Hid (hasL L k = true) := Lib.hid ((hasL_iff L k).2 ⟨_, hp.subset (List.mem_of_getElem? (of_at hj)), hjk⟩)
    have HD := Lib.hid (fun (w' : World) (hv' : Value) => h.drop (w' := w') (hv' := hv') hp hh hj hjk)
    have HE := Lib.hid e1
    clear h a b hh hp hm e1 hj hjk
    go_enter Try.func11, Try.ntmps11
    repeat (first | go_step3 | go_values | go_skip | go_guarded | go_step | go_upon)
    (go_at_call 24; refine HT.out.mono ?_; rintro e w1 ⟨rfl, rfl⟩; dsimp only)
    go_wp2_with (go_at_call 26; refine HR.out.mono ?_; rintro e w2 ⟨rfl, q2, t2⟩; have HB2 := Lib.hid (And.intro q2 t2); clear q2 t2; dsimp only)
    go_ret
    exact ⟨by rw [HF.out]; rfl, _, HD.out _ _ HB2.out.1, by rw [HE.out]; rfl, by rw [HE.out]; exact HB2.out.2⟩
  · have hl := a.map.look_miss encS Try.underlying47 (zeroI w) hk hm true
    simp only [if_true, strV] at hl
    have HF := Lib.hid (hasL_not (k := k) (L := L) (fun y hy => hno y (hp.symm.subset hy)))
    clear h a b hh hp hm hno
    go_enter Try.func11, Try.ntmps11
    repeat (first | go_step3 | go_values | go_skip | go_guarded | go_step | go_upon)
    (go_at_call 24; refine HT.out.mono ?_; rintro e w1 ⟨rfl, rfl⟩; dsimp only)
    go_wp2
    go_ret
    exact ⟨by rw [HF.out.1]; rfl, _, by rw [HF.out.2]; exact HL.out, rfl, Touch.refl _ _⟩
end
end Go.Proofs.Ythafopnaecbjdaa
