/- A map's literal: its keys are put in whatever order. -/
import Derived.Test.YthfchnoebncpfaaMapOps
import Derived.OrdersHeld
namespace Go.Proofs.Ythfchnoebncpfaa
open Go Go.Maps Go.MapKept Go.ChangeMaps

section
variable {K : Type} [DecidableEq K]
/-- op number, key, value -/
abbrev LitRow (K : Type) := Nat × K × Value
def litKv (l : List (LitRow K)) : List (K × Value) := l.map (·.2)
theorem mget_perm {l l' : List (K × Value)} (h : l.Perm l') (hn : (l.map (·.1)).Nodup) (y : K) : mget l y = mget l' y := by
  have hn' : (l'.map (·.1)).Nodup := (h.map _).nodup_iff.1 hn
  cases he : mget l' y with
  | none =>
    rw [mget_none] at he ⊢
    exact fun p hp => he p (h.mem_iff.1 hp)
  | some v => exact mem_mget hn (h.mem_iff.2 (mget_mem he))

theorem set_getD {listed : Array Bool} {i j : Nat} (hi : i < listed.size) : (listed.setIfInBounds i true).getD j true = if j = i then true else listed.getD j true := by
  by_cases h : j = i
  · subst h; simp [hi]
  · rw [if_neg h, getD_set_ne true (Ne.symm h)]

variable {P : Program} {k : TypeId} {enc : K → Value} {good : K → Prop} {ops : Array Oper} {Q : Exit → Act → World → Prop} {md : Region.Mode} {S : World → Prop}

def litEnd (tbl : List (LitRow K)) (base : Array Bool) : Array Bool := tbl.foldl (fun l x => l.setIfInBounds x.1 true) base
omit [DecidableEq K] in
theorem litEnd_spec (tbl : List (LitRow K)) : ∀ (base : Array Bool), (∀ x ∈ tbl, x.1 < base.size) → (litEnd tbl base).size = base.size ∧ ∀ j, (litEnd tbl base).getD j true = if j ∈ tbl.map (·.1) then true else base.getD j true := by
  induction tbl with
  | nil => intro base _; simp [litEnd]
  | cons x tbl ih =>
    intro base h
    have h1 := ih (base.setIfInBounds x.1 true) (fun y hy => by simpa using h y (by simp [hy]))
    have e : litEnd (x :: tbl) base = litEnd tbl (base.setIfInBounds x.1 true) := rfl
    rw [e]
    refine ⟨by simpa using h1.1, fun j => ?_⟩
    rw [h1.2 j, set_getD (h x (by simp))]
    by_cases hj : j = x.1
    · subst hj; simp
    · rw [if_neg hj]
      by_cases hjd : j ∈ tbl.map (·.1)
      · rw [if_pos hjd, if_pos (by rw [List.map_cons]; exact List.mem_cons_of_mem _ hjd)]
      · rw [if_neg hjd, if_neg (by rw [List.map_cons, List.mem_cons]; rintro (h | h); exact hj h; exact hjd h)]
theorem wpAnyH_inserts0 {b : Nat} {t e : TypeId} (KE : KeyEnc P k enc good) (ht : P.underlying t = some (.map k e)) (tbl : List (LitRow K)) (a : Act) (base final : Array Bool)
    (hnd : (tbl.map (·.2.1)).Nodup) (hni : (tbl.map (·.1)).Nodup) (hgood : ∀ x ∈ tbl, good x.2.1) (hlen : tbl.length < 1000)
    (hops : ∀ x ∈ tbl, ∃ m kx vx ty pos af, ops[x.1]? = some ⟨none, .insert t m kx vx, ty, pos, af, none⟩ ∧ a.eval m = .map (some b) ∧ a.eval kx = enc x.2.1 ∧ a.eval vx = x.2.2)
    (hS : ∀ w w', S w → Touch [b] w w' → S w') (hrd : ∀ x ∈ tbl, x.1 ∈ Region.ready md ops base)
    (hwait : ∀ j o, ops[j]? = some o → base.getD j true = false → j ∉ tbl.map (·.1) → ∀ x ∈ tbl, ∃ e ∈ o.after, Region.binds md e = true ∧ e.on = x.1)
    (hfin : final.size = base.size ∧ ∀ j, final.getD j true = if j ∈ tbl.map (·.1) then true else base.getD j true)
    (w : World) (hSw : S w) (hM : MapT w b enc good []) (fuel : Nat)
    (hend : ∀ w' l, MapT w' b enc good l → (∀ y, mget l y = mget (litKv tbl) y) → Touch [b] w w' → S w' → wpAnyH P md ops Q S fuel final a w') :
    wpAnyH P md ops Q S (tbl.length + fuel) base a w := by
  have key : ∀ (n : Nat) (done todo : List (LitRow K)) (listed : Array Bool) (w' : World) (l : List (K × Value)), todo.length = n → (done ++ todo).Perm tbl → listed.size = base.size → (∀ j, listed.getD j true = if j ∈ done.map (·.1) then true else base.getD j true) →
      MapT w' b enc good l → (∀ y, mget l y = mget (litKv done) y) → l.length = done.length → Touch [b] w w' → S w' → wpAnyH P md ops Q S (n + fuel) listed a w' := by
    intro n
    induction n with
    | zero =>
      intro done todo listed w' l ht0 hp hsz hl hMl hg _ hT hSS
      have : todo = [] := List.length_eq_zero_iff.1 ht0
      subst this
      rw [List.append_nil] at hp
      have hfl : listed = final := by
        apply Array.ext
        · rw [hsz, hfin.1]
        · intro j h1 h2
          have e1 := hl j
          have e2 := hfin.2 j
          have hm : (j ∈ done.map (·.1)) ↔ (j ∈ tbl.map (·.1)) := (hp.map _).mem_iff
          simp only [hm] at e1
          have := e1.trans e2.symm
          simpa [Array.getD, h1, h2] using this
      subst hfl
      rw [Nat.zero_add]
      refine hend w' l hMl (fun y => ?_) hT hSS
      rw [hg y]
      exact mget_perm (hp.map _) (by
        have := (hp.map (fun x : LitRow K => x.2.1)).nodup_iff.2 hnd
        simpa [litKv, List.map_map, Function.comp_def] using this) y
    | succ n ih =>
      intro done todo listed w' l ht0 hp hsz hl hMl hg hlen' hT hSS
      have hndall : ((done ++ todo).map (·.1)).Nodup := (hp.map _).nodup_iff.2 hni
      have hndk : ((done ++ todo).map (·.2.1)).Nodup := (hp.map _).nodup_iff.2 hnd
      have hmono : ∀ x ∈ todo, x.1 ∈ Region.ready md ops listed := fun x hx => by
        have hxt := hp.mem_iff.1 (List.mem_append.2 (.inr hx))
        have h0 := hrd x hxt
        rw [mem_ready] at h0 ⊢
        obtain ⟨h1, o, ho, hall⟩ := h0
        refine ⟨?_, o, ho, fun e he hb => ?_⟩
        · rw [hl, if_neg, h1]
          intro hm
          rw [List.map_append, List.nodup_append] at hndall
          exact hndall.2.2 _ hm _ (List.mem_map.2 ⟨x, hx, rfl⟩) rfl
        · have h3 := hall e he hb
          have hlt : e.on < base.size := by
            rcases Nat.lt_or_ge e.on base.size with h' | h'
            · exact h'
            · simp [Array.getElem?_eq_none h'] at h3
          have h4 := hl e.on
          have h5 : base.getD e.on true = true := by simpa [Array.getD, hlt] using h3
          rw [h5] at h4
          have hlt' : e.on < listed.size := by omega
          simpa [Array.getD, hlt'] using h4
      obtain ⟨x0, hx0⟩ : ∃ x, x ∈ todo := by
        cases todo with
        | nil => simp at ht0
        | cons x _ => exact ⟨x, by simp⟩
      show wpAnyH P md ops Q S (n + 1 + fuel) listed a w'
      have hfu : n + 1 + fuel = (n + fuel) + 1 := by omega
      rw [hfu]
      refine ⟨fun h0 => (by have := hmono x0 hx0; rw [h0] at this; cases this), fun i hi => ?_⟩
      obtain ⟨hun, o, ho, hall⟩ := mem_ready.1 hi
      -- it is one of those to come
      have hit : i ∈ tbl.map (·.1) := by
        refine Classical.byContradiction fun hn => ?_
        have hnd' : i ∉ done.map (·.1) := fun hm => hn ((hp.map _).mem_iff.1 (by rw [List.map_append]; exact List.mem_append.2 (.inl hm)))
        have hb := hl i
        rw [hun, if_neg hnd'] at hb
        obtain ⟨e, he, hbe, heo⟩ := hwait i o ho hb.symm hn x0 (hp.mem_iff.1 (List.mem_append.2 (.inr hx0)))
        have h1 := hall e he hbe
        have h2 := (mem_ready.1 (hmono x0 hx0)).1
        rw [heo] at h1
        rcases Nat.lt_or_ge x0.1 listed.size with h' | h'
        · simp [Array.getD, h'] at h1 h2; rw [h1] at h2; cases h2
        · simp [Array.getElem?_eq_none h'] at h1
      have hitodo : i ∈ todo.map (·.1) := by
        have : i ∈ (done ++ todo).map (·.1) := (hp.map _).mem_iff.2 hit
        rw [List.map_append] at this
        rcases List.mem_append.1 this with h | h
        · have hb := hl i
          rw [hun, if_pos h] at hb
          cases hb
        · exact h
      obtain ⟨x, hx, rfl⟩ := List.mem_map.1 hitodo
      have hxt := hp.mem_iff.1 (List.mem_append.2 (.inr hx))
      obtain ⟨m, kx, vx, ty, pos, af, hop, em, ek, ev⟩ := hops x hxt
      obtain ⟨l1, l2, rfl⟩ := List.append_of_mem hx
      have hll : l.length < maxLen := by
        have := hp.length_eq
        simp only [List.length_append, List.length_cons] at this
        rw [hlen']
        have : (1000 : Nat) ≤ maxLen := by decide
        omega
      obtain ⟨es', clock', hrun, r1, r2, r3, r4⟩ := hMl.store KE ht hll (hgood x hxt) x.2.2
      have t' : Touch [b] w' (setBlock w' b (.map es' clock')) := (Touch.refl _ _).setBlock b _ (by simp)
      have hM' : MapT (setBlock w' b (.map es' clock')) b enc good (mput l x.2.1 x.2.2) := ⟨es', clock', heap_setBlock_eq _ hMl.lt, r1, r2, r3, r4⟩
      have hnew : ∀ p ∈ l, p.1 ≠ x.2.1 := by
        rw [← mget_none, hg, mget_none]
        intro p hpm he
        obtain ⟨y, hy, rfl⟩ := List.mem_map.1 hpm
        rw [List.map_append, List.nodup_append] at hndk
        exact hndk.2.2 _ (List.mem_map.2 ⟨y, hy, rfl⟩) _ (List.mem_map.2 ⟨x, by simp, rfl⟩) he
      unfold wpOp
      simp only [hop]
      have hw : Region.wanted ⟨none, .insert t m kx vx, ty, pos, af, none⟩ (yielded ops a.tmps) = true := by simp [Region.wanted]
      rw [if_pos hw]
      refine .inl ?_
      unfold Oper.wp
      simp only [execOp, em, ek, ev, Sem.run_bind, hrun, Result.andThen_ok, Sem.run_pure]
      refine ⟨hS _ _ hSS t', ?_⟩
      refine ih (x :: done) (l1 ++ l2) (listed.setIfInBounds x.1 true) _ _ (by simp at ht0 ⊢; omega) ?_ (by simpa using hsz) (fun j => ?_) hM' (fun y => ?_) ?_ (hT.trans t' (by simp)) (hS _ _ hSS t')
      · refine List.Perm.trans ?_ hp
        have h1 : (x :: done ++ (l1 ++ l2)).Perm (done ++ x :: (l1 ++ l2)) := by
          have := List.perm_middle (a := x) (l₁ := done) (l₂ := l1 ++ l2)
          exact this.symm
        exact h1.trans (List.Perm.append_left done (List.perm_middle (a := x) (l₁ := l1) (l₂ := l2)).symm)
      · have hilt : x.1 < listed.size := by
          rcases Nat.lt_or_ge x.1 listed.size with h' | h'
          · exact h'
          · simp [Array.getElem?_eq_none h'] at hun
        rw [set_getD hilt, hl j]
        by_cases hj : j = x.1
        · rw [if_pos hj, if_pos (by rw [List.map_cons, hj]; exact List.mem_cons_self)]
        · rw [if_neg hj]
          by_cases hjd : j ∈ done.map (·.1)
          · rw [if_pos hjd, if_pos (by rw [List.map_cons]; exact List.mem_cons_of_mem _ hjd)]
          · rw [if_neg hjd, if_neg (by rw [List.map_cons, List.mem_cons]; rintro (h | h); exact hj h; exact hjd h)]
      · rw [mget_mput, hg y]
        rfl
      · rw [mput_new hnew]; simp [hlen']
  exact key tbl.length [] tbl base w [] rfl (by simp) rfl (fun j => by simp) hM (fun y => rfl) rfl (Touch.refl _ _) hSw
/-- The same, its conditions as the kernel runs them. -/
theorem wpAnyH_inserts {b : Nat} {t e : TypeId} (KE : KeyEnc P k enc good) (ht : P.underlying t = some (.map k e)) (tbl : List (LitRow K)) (a : Act) (base : Array Bool)
    (hnd : (tbl.map (·.2.1)).Nodup) (hni : (tbl.map (·.1)).Nodup) (hgood : ∀ x ∈ tbl, good x.2.1) (hlen : tbl.length < 1000)
    (hops : ∀ x ∈ tbl, ∃ m kx vx ty pos af, ops[x.1]? = some ⟨none, .insert t m kx vx, ty, pos, af, none⟩ ∧ a.eval m = .map (some b) ∧ a.eval kx = enc x.2.1 ∧ a.eval vx = x.2.2)
    (hS : ∀ w w', S w → Touch [b] w w' → S w') (hrd : ((tbl.map (·.1)).all fun i => (Region.ready md ops base).contains i) = true)
    (hwait : ((List.range ops.size).all fun j => base.getD j true || (tbl.map (·.1)).contains j || match ops[j]? with | some o => (tbl.map (·.1)).all fun i => o.after.any fun e => Region.binds md e && e.on == i | none => true) = true)
    (w : World) (hSw : S w) (hM : MapT w b enc good []) (fuel : Nat)
    (hend : ∀ w' l, MapT w' b enc good l → (∀ y, mget l y = mget (litKv tbl) y) → Touch [b] w w' → S w' → wpAnyH P md ops Q S fuel (litEnd tbl base) a w') :
    wpAnyH P md ops Q S (tbl.length + fuel) base a w := by
  have hrd' : ∀ x ∈ tbl, x.1 ∈ Region.ready md ops base := fun x hx => by
    have := List.all_eq_true.1 hrd x.1 (List.mem_map.2 ⟨x, hx, rfl⟩)
    simpa using this
  refine wpAnyH_inserts0 KE ht tbl a base (litEnd tbl base) hnd hni hgood hlen hops hS hrd' (fun j o ho hb hj x hx => ?_) (litEnd_spec tbl base fun x hx => ?_) w hSw hM fuel hend
  · have hjs : j < ops.size := (Array.getElem?_eq_some_iff.1 ho).1
    have h1 := List.all_eq_true.1 hwait j (List.mem_range.2 hjs)
    have hj' : (tbl.map (·.1)).contains j = false := by
      cases hc : (tbl.map (·.1)).contains j with
      | false => rfl
      | true => exact absurd (by simpa using hc) hj
    rw [hb, hj', ho, Bool.false_or, Bool.false_or] at h1
    have h2 := List.all_eq_true.1 h1 x.1 (List.mem_map.2 ⟨x, hx, rfl⟩)
    obtain ⟨e, he, h3⟩ := Array.any_eq_true'.1 h2
    rw [Bool.and_eq_true, beq_iff_eq] at h3
    exact ⟨e, he, h3⟩
  · have h0 := (mem_ready.1 (hrd' x hx)).1
    rcases Nat.lt_or_ge x.1 base.size with h' | h'
    · exact h'
    · simp [Array.getElem?_eq_none h'] at h0
end
end Go.Proofs.Ythfchnoebncpfaa
