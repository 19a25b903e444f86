/- gauge: numbers that come in, one after the other; what a rank tells of them. -/
import Derived.Test.YtmgcmheiabmajaaGa9
namespace Go.Proofs.Ytmgcmheiabmajaa
open Go Go.RowKit Go.Proofs.Ytmgcmheiabmajaa.Pa Go.Proofs.YtmgcmheiabmajaaW.PrintWords Go.Proofs.YtmgcmheiabmajaaW.PrintLast

/-- A gauge's numbers. -/
structure GS where
  L : List SB
  t : Int
  s : Int
def okI (x : Int) : Bool := decide (0 ≤ x ∧ x ≤ 1099511627776)
def stepG (S : GS) (x : Int) : GS := if okI x = true then ⟨addL S.L x, S.t + 1, mn (S.s + x) cutI⟩ else S
def playG (S : GS) (l : List Int) : GS := l.foldl stepG S
def startG (B : List Int) : GS := ⟨initL B, 0, 0⟩
/-- What holds of a gauge of bounds B behind at most k numbers. -/
structure Okg (B : List Int) (k : Nat) (S : GS) : Prop where
  good : Good B
  bs : S.L.map (·.b) = B ++ [cutI]
  c : ∀ y ∈ S.L, 0 ≤ y.c ∧ y.c ≤ S.t
  t : 0 ≤ S.t ∧ S.t ≤ k
  s : 0 ≤ S.s ∧ S.s ≤ cutI
theorem Okg.len {B : List Int} {k : Nat} {S : GS} (h : Okg B k S) : S.L.length = B.length + 1 := by
  have := congrArg List.length h.bs
  simpa using this
theorem good_ris {B : List Int} (h : Good B) : (B ++ [cutI]).Pairwise (· < ·) := by
  obtain ⟨h0, h1, h2, h3, h4⟩ := h
  rw [List.pairwise_append]
  refine ⟨h2, List.pairwise_singleton _ _, fun a ha b hb => ?_⟩
  rw [List.mem_singleton] at hb
  subst hb
  obtain ⟨i, hi, rfl⟩ := List.getElem_of_mem ha
  have hl : rd B ((B.length : Int) - 1) = B[B.length - 1] := by
    rw [show ((B.length : Int) - 1) = ((B.length - 1 : Nat) : Int) by omega]
    exact rd_at B (B.length - 1) (by omega)
  rw [hl] at h4
  have : B[i] ≤ B[B.length - 1] := by
    by_cases e : i = B.length - 1
    · subst e; exact Int.le_refl _
    · exact Int.le_of_lt (List.pairwise_iff_getElem.1 h2 i (B.length - 1) hi (by omega) (by omega))
  unfold cutI
  omega
theorem good_pos {B : List Int} (h : Good B) : ∀ x ∈ B, 0 ≤ x ∧ x ≤ 1099511627776 := by
  obtain ⟨h0, h1, h2, h3, h4⟩ := h
  intro x hx
  obtain ⟨i, hi, rfl⟩ := List.getElem_of_mem hx
  have hl : rd B ((B.length : Int) - 1) = B[B.length - 1] := by
    rw [show ((B.length : Int) - 1) = ((B.length - 1 : Nat) : Int) by omega]
    exact rd_at B (B.length - 1) (by omega)
  have hf : rd B 0 = B[0] := rd_at B 0 h0
  rw [hl] at h4
  rw [hf] at h3
  have a1 : B[i] ≤ B[B.length - 1] := by
    by_cases e : i = B.length - 1
    · subst e; exact Int.le_refl _
    · exact Int.le_of_lt (List.pairwise_iff_getElem.1 h2 i (B.length - 1) hi (by omega) (by omega))
  have a2 : B[0] ≤ B[i] := by
    by_cases e : i = 0
    · subst e; exact Int.le_refl _
    · exact Int.le_of_lt (List.pairwise_iff_getElem.1 h2 0 i h0 hi (by omega))
  omega
theorem Okg.ris {B : List Int} {k : Nat} {S : GS} (h : Okg B k S) : Ris S.L := by
  have := good_ris h.good
  rw [← h.bs] at this
  exact List.pairwise_map.1 this
theorem Okg.sm {B : List Int} {k : Nat} {S : GS} (h : Okg B k S) (hk : k ≤ 1000000) : Sm S.L S.t S.s :=
  ⟨fun y hy => by have := h.c y hy; have := h.t; omega, by have := h.t; omega, by have := h.s; unfold cutI at this; exact this⟩
theorem Okg.bnd {B : List Int} {k : Nat} {S : GS} (h : Okg B k S) : Bnd S.L := by
  refine ⟨fun y hy => ?_⟩
  have : y.b ∈ S.L.dropLast.map (·.b) := List.mem_map.2 ⟨y, hy, rfl⟩
  rw [List.map_dropLast, h.bs, List.dropLast_concat] at this
  have := good_pos h.good _ this
  omega
theorem Okg.pos {B : List Int} {k : Nat} {S : GS} (h : Okg B k S) {x : Int} (hx : okI x = true) : posB S.L x < S.L.length := by
  have hl := h.len
  have hx := of_decide_eq_true hx
  have hlt : S.L.length - 1 < S.L.length := by omega
  have he : (S.L.map (·.b))[S.L.length - 1]? = some cutI := by
    rw [h.bs, hl, Nat.add_sub_cancel, List.getElem?_append_right (Nat.le_refl _), Nat.sub_self]
    rfl
  rw [List.getElem?_map, List.getElem?_eq_getElem hlt] at he
  have hb : (S.L[S.L.length - 1]).b = cutI := Option.some.inj he
  have := pos_le (x := x) (List.getElem?_eq_getElem hlt) (by rw [hb]; unfold cutI; omega)
  omega
theorem addL_at {L : List SB} {x : Int} (h : posB L x < L.length) : addL L x = putC L (posB L x) (L[posB L x].c + 1) := by
  unfold addL
  rw [List.getD_eq_getElem?_getD, List.getElem?_eq_getElem h]
  rfl
theorem putC_map (L : List SB) (j : Nat) (c : Int) : (putC L j c).map (·.b) = L.map (·.b) := by
  unfold putC
  apply List.ext_getElem?
  intro i
  rw [List.getElem?_map, List.getElem?_modify, List.getElem?_map]
  cases L[i]? with
  | none => rfl
  | some y =>
    show some (if j = i then _ else y).b = some y.b
    split <;> rfl
theorem putC_mem {L : List SB} {j : Nat} {c : Int} {y : SB} (h : y ∈ putC L j c) : y ∈ L ∨ y.c = c := by
  unfold putC at h
  obtain ⟨i, hi⟩ := List.mem_iff_getElem?.1 h
  rw [List.getElem?_modify] at hi
  cases hl : L[i]? with
  | none => rw [hl] at hi; simp at hi
  | some z =>
    rw [hl] at hi
    have hi : (if j = i then (⟨z.b, c⟩ : SB) else z) = y := Option.some.inj hi
    split at hi
    · subst hi; exact .inr rfl
    · subst hi; exact .inl (List.mem_of_getElem? hl)
theorem Okg.step {B : List Int} {k : Nat} {S : GS} (h : Okg B k S) (x : Int) : Okg B (k + 1) (stepG S x) := by
  unfold stepG
  split
  · rename_i hx
    have hp := h.pos hx
    have hy := h.c _ (List.getElem_mem hp)
    have ht := h.t
    have hs := h.s
    have hxx := of_decide_eq_true hx
    refine ⟨h.good, ?_, fun y hyy => ?_, by show 0 ≤ S.t + 1 ∧ S.t + 1 ≤ ((k + 1 : Nat) : Int); omega, ?_⟩
    · show (addL S.L x).map (·.b) = _
      rw [addL_at hp, putC_map]
      exact h.bs
    · show 0 ≤ y.c ∧ y.c ≤ S.t + 1
      have hyy : y ∈ addL S.L x := hyy
      rw [addL_at hp] at hyy
      rcases putC_mem hyy with hm | hm
      · have := h.c y hm; omega
      · rw [hm]; omega
    · show 0 ≤ mn (S.s + x) cutI ∧ mn (S.s + x) cutI ≤ cutI
      unfold mn
      unfold cutI at *
      split <;> omega
  · exact ⟨h.good, h.bs, h.c, by have := h.t; omega, h.s⟩
theorem Okg.start {B : List Int} (h : Good B) : Okg B 0 (startG B) := by
  refine ⟨h, ?_, fun y hy => ?_, ⟨Int.le_refl _, Int.le_refl _⟩, ⟨Int.le_refl _, by show (0 : Int) ≤ cutI; decide⟩⟩
  · show (initL B).map (·.b) = _
    unfold initL
    rw [List.map_append, List.map_map]
    congr 1
    clear h
    induction B with
    | nil => rfl
    | cons a r ih => exact congrArg (a :: ·) ih
  · have hy : y ∈ initL B := hy
    unfold initL at hy
    rcases List.mem_append.1 hy with hy | hy
    · obtain ⟨b, _, rfl⟩ := List.mem_map.1 hy
      exact ⟨Int.le_refl _, Int.le_refl _⟩
    · rw [List.mem_singleton] at hy
      subst hy
      exact ⟨Int.le_refl _, Int.le_refl _⟩
theorem Okg.play {B : List Int} : ∀ (l : List Int) (k : Nat) (S : GS), Okg B k S → Okg B (k + l.length) (playG S l)
  | [], k, S, h => h
  | x :: r, k, S, h => by
    have := Okg.play r (k + 1) (stepG S x) (h.step x)
    rw [List.length_cons, show k + (r.length + 1) = k + 1 + r.length by omega]
    exact this
theorem play_take (S : GS) (l : List Int) (k : Nat) (h : k < l.length) : playG S (l.take (k + 1)) = stepG (playG S (l.take k)) l[k] := by
  unfold playG
  rw [List.take_succ_eq_append_getElem h, List.foldl_append]
  rfl
/-! Add, of any number -/
def AddQ (w0 w : World) (p b cp : Nat) (S : GS) (x : Int) (e : Ending) (w' : World) : Prop := e = .returned (.bool (okI x)) ∧ St w0 w' p b cp (stepG S x).L (stepG S x).t (stepG S x).s ∧ Touch [p, b] w w'
theorem add_play {w0 w : World} {p b cp : Nat} {S : GS} {B : List Int} {k : Nat} (h : St w0 w p b cp S.L S.t S.s) (ho : Okg B k S) (hk : k ≤ 1000000) (x : Int) : Calls Try.prog 9 #[.pointer (some ⟨p, 0, none⟩), .int .i64 x] w (AddQ w0 w p b cp S x) := by
  cases hx : okI x with
  | true =>
    have hxx := of_decide_eq_true hx
    refine (add_any h.ga ho.ris (ho.sm hk) x hxx.1 hxx.2 (ho.pos hx)).mono ?_
    rintro e w' ⟨rfl, hG, hT⟩
    have hs : stepG S x = ⟨addL S.L x, S.t + 1, mn (S.s + x) cutI⟩ := if_pos hx
    refine ⟨by rw [hx], ?_, hT⟩
    rw [hs]
    exact h.step hG rfl rfl rfl hT
  | false =>
    have hxx := of_decide_eq_false hx
    refine (add_bad h.ga x (by omega)).mono ?_
    rintro e w' ⟨rfl, rfl⟩
    have hs : stepG S x = S := if_neg (by rw [hx]; decide)
    refine ⟨by rw [hx], ?_, Touch.refl _ _⟩
    rw [hs]
    exact h
/-! ranks -/
def cum (L : List SB) (y : Int) : Int := (L.map fun z => if z.b ≤ y then z.c else 0).sum
def below (l : List Int) (y : Int) : Nat := (l.filter fun x => decide (0 ≤ x ∧ x ≤ y)).length
theorem cum_add {L : List SB} {x : Int} (_hr : Ris L) (h : posB L x < L.length) (y : Int) : cum (addL L x) y = cum L y + (if L[posB L x].b ≤ y then 1 else 0) := by
  rw [addL_at h]
  generalize posB L x = j at *
  clear _hr
  unfold cum putC
  induction L generalizing j with
  | nil => simp at h
  | cons a r ih =>
    cases j with
    | zero =>
      show (((⟨a.b, a.c + 1⟩ : SB) :: r).map fun z => if z.b ≤ y then z.c else 0).sum = ((a :: r).map fun z => if z.b ≤ y then z.c else 0).sum + (if a.b ≤ y then 1 else 0)
      rw [List.map_cons, List.map_cons, List.sum_cons, List.sum_cons]
      show (if a.b ≤ y then a.c + 1 else 0) + _ = _
      split <;> omega
    | succ j =>
      have hj : j < r.length := by simpa using h
      have := ih j hj
      show ((a :: (r.modify j fun z => ⟨z.b, r[j].c + 1⟩)).map fun z => if z.b ≤ y then z.c else 0).sum = ((a :: r).map fun z => if z.b ≤ y then z.c else 0).sum + (if r[j].b ≤ y then 1 else 0)
      rw [List.map_cons, List.map_cons, List.sum_cons, List.sum_cons, this]
      omega
theorem pos_ge {L : List SB} {x : Int} (h : posB L x < L.length) : x ≤ L[posB L x].b := by
  induction L with
  | nil => simp at h
  | cons a r ih =>
    unfold posB at h ⊢
    rw [List.takeWhile_cons] at h
    by_cases hb : a.b < x
    · have e : (List.takeWhile (fun y => decide (y.b < x)) (a :: r)).length = posB r x + 1 := by
        rw [List.takeWhile_cons, if_pos (by simpa using hb)]
        rfl
      rw [if_pos (by simpa using hb)] at h
      have h' : posB r x < r.length := by simpa [posB] using h
      have := ih h'
      simp only [e]
      exact this
    · have e : (List.takeWhile (fun y => decide (y.b < x)) (a :: r)).length = 0 := by
        rw [List.takeWhile_cons, if_neg (by simpa using hb)]
        rfl
      simp only [e]
      show x ≤ a.b
      omega
theorem cum_below {B : List Int} : ∀ (l : List Int) (k : Nat) (S : GS) (n : Int → Nat), Okg B k S → (∀ y, cum S.L y ≤ n y) → ∀ y, cum (playG S l).L y ≤ n y + below l y
  | [], k, S, n, _, hn, y => by
    show cum S.L y ≤ n y + ((0 : Nat) : Int)
    have := hn y
    omega
  | x :: r, k, S, n, ho, hn, y => by
    have hstep : ∀ y, cum (stepG S x).L y ≤ ((n y + (if 0 ≤ x ∧ x ≤ y then 1 else 0) : Nat) : Int) := by
      intro y
      unfold stepG
      split
      · rename_i hx
        have hp := ho.pos hx
        have hxx := of_decide_eq_true hx
        have hge := pos_ge hp
        show cum (addL S.L x) y ≤ _
        rw [cum_add ho.ris hp]
        have := hn y
        by_cases hb : S.L[posB S.L x].b ≤ y
        · rw [if_pos hb, if_pos (by omega)]
          omega
        · rw [if_neg hb]
          omega
      · have := hn y
        omega
    have := cum_below r (k + 1) (stepG S x) (fun y => n y + (if 0 ≤ x ∧ x ≤ y then 1 else 0)) (ho.step x) hstep y
    have hb : below (x :: r) y = (if 0 ≤ x ∧ x ≤ y then 1 else 0) + below r y := by
      unfold below
      rw [List.filter_cons]
      by_cases h : 0 ≤ x ∧ x ≤ y
      · rw [if_pos (by simpa using h), if_pos h, List.length_cons]
        omega
      · rw [if_neg (by simpa using h), if_neg h]
        omega
    rw [hb]
    have h2 : cum (playG S (x :: r)).L y = cum (playG (stepG S x) r).L y := rfl
    rw [h2]
    omega
theorem rank_sum (tot q : Int) : ∀ (L : List SB) (a v : Int), Ris L → (∀ y ∈ L, 0 ≤ y.c) → rankG tot q L a = (v, true) → q * tot ≤ 1000 * (a + cum L v)
  | [], a, v, _, _, h => by simp [rankG] at h
  | y :: r, a, v, hr, hc, h => by
    obtain ⟨h1, h2⟩ := List.pairwise_cons.1 hr
    have hnn : ∀ (M : List SB) (v : Int), (∀ y ∈ M, 0 ≤ y.c) → 0 ≤ cum M v := by
      intro M v hM
      induction M with
      | nil => exact Int.le_refl _
      | cons z M ih =>
        have := ih (fun y hy => hM y (List.mem_cons_of_mem _ hy))
        have hz := hM z List.mem_cons_self
        unfold cum at *
        rw [List.map_cons, List.sum_cons]
        split <;> omega
    have hcum : cum (y :: r) v = (if y.b ≤ v then y.c else 0) + cum r v := by unfold cum; rw [List.map_cons, List.sum_cons]
    unfold rankG at h
    split at h
    · rename_i hle
      cases h
      rw [hcum, if_pos (Int.le_refl _)]
      have := hnn r y.b (fun z hz => hc z (List.mem_cons_of_mem _ hz))
      omega
    · have ih := rank_sum tot q r (a + y.c) v h2 (fun z hz => hc z (List.mem_cons_of_mem _ hz)) h
      have hm : ∃ z ∈ r, z.b = v := rank_mem tot q r (a + y.c) v h
      obtain ⟨z, hz, rfl⟩ := hm
      rw [hcum, if_pos (Int.le_of_lt (h1 z hz))]
      omega
where rank_mem (tot q : Int) : ∀ (L : List SB) (a v : Int), rankG tot q L a = (v, true) → ∃ z ∈ L, z.b = v
  | [], a, v, h => by simp [rankG] at h
  | y :: r, a, v, h => by
    unfold rankG at h
    split at h
    · cases h
      exact ⟨y, List.mem_cons_self, rfl⟩
    · obtain ⟨z, hz, e⟩ := rank_mem tot q r _ v h
      exact ⟨z, List.mem_cons_of_mem _ hz, e⟩
theorem rank_mono (tot q : Int) (hq : q * tot ≤ 1000 * tot) : ∀ (L : List SB) (a v v' : Int), Ris L → rankG tot q L a = (v, true) → rankG tot 1000 L a = (v', true) → v ≤ v'
  | [], a, v, v', _, h, _ => by simp [rankG] at h
  | y :: r, a, v, v', hr, h, h' => by
    obtain ⟨h1, h2⟩ := List.pairwise_cons.1 hr
    unfold rankG at h h'
    by_cases hle : q * tot ≤ 1000 * (a + y.c)
    · rw [if_pos hle] at h
      cases h
      by_cases hle' : 1000 * tot ≤ 1000 * (a + y.c)
      · rw [if_pos hle'] at h'
        cases h'
        exact Int.le_refl _
      · rw [if_neg hle'] at h'
        obtain ⟨z, hz, rfl⟩ := rank_sum.rank_mem tot 1000 r _ _ h'
        exact Int.le_of_lt (h1 z hz)
    · rw [if_neg hle] at h
      rw [if_neg (by omega)] at h'
      exact rank_mono tot q hq r _ v v' h2 h h'
end Go.Proofs.Ytmgcmheiabmajaa
