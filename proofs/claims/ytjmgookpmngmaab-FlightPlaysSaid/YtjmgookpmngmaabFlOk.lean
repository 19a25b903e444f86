/- The board's law, plain: what stays true of it, whatever is asked, landed, left; and the contracts with it. -/
import Derived.Test.YtjmgookpmngmaabFl4
namespace Go.Proofs.Ytjmgookpmngmaab
open Go Go.RowKit Go.Maps

section
variable {K α : Type} [DecidableEq K]
theorem mput_nodup {l : List (K × α)} {x : K} {v : α} (h : (l.map (·.1)).Nodup) : ((mput l x v).map (·.1)).Nodup := by
  rw [mput_keys]
  split
  · exact h
  · next hn => exact List.nodup_append.2 ⟨h, by simp, fun a ha b hb e => by simp at hb; subst hb; subst e; exact hn ha⟩
theorem mdel_sublist (l : List (K × α)) (x : K) : (mdel l x).Sublist l := List.filter_sublist
theorem mdel_nodup {l : List (K × α)} {x : K} (h : (l.map (·.1)).Nodup) : ((mdel l x).map (·.1)).Nodup := h.sublist ((mdel_sublist l x).map _)
theorem mdel_length_le (l : List (K × α)) (x : K) : (mdel l x).length ≤ l.length := (mdel_sublist l x).length_le
theorem mdel_absent {l : List (K × α)} {x : K} (h : ∀ p ∈ l, p.1 ≠ x) : mdel l x = l := List.filter_eq_self.2 fun p hp => by simpa using h p hp
theorem mdel_length {x : K} {v : α} : ∀ {l : List (K × α)}, (l.map (·.1)).Nodup → mget l x = some v → (mdel l x).length + 1 = l.length
  | [], _, h => by simp [mget] at h
  | (y, u) :: r, hn, h => by
    simp only [List.map_cons, List.nodup_cons] at hn
    by_cases e : y = x
    · subst e
      have : mdel ((y, u) :: r) y = r := by
        unfold mdel
        rw [List.filter_cons, if_neg (by simp)]
        exact mdel_absent (l := r) fun p hp e => hn.1 (List.mem_map.2 ⟨p, hp, e⟩)
      rw [this]; rfl
    · simp only [mget, if_neg e] at h
      have := mdel_length hn.2 h
      unfold mdel at this ⊢
      rw [List.filter_cons, if_pos (by simpa using e)]
      simp only [List.length_cons]; omega
theorem mput_length_has {l : List (K × α)} {x : K} {v u : α} (h : mget l x = some u) : (mput l x v).length = l.length := by
  have := congrArg List.length (mput_keys l x v)
  rw [if_pos (List.mem_map.2 ⟨_, mget_mem h, rfl⟩)] at this
  simpa using this
theorem mput_length_new {l : List (K × α)} {x : K} {v : α} (h : mget l x = none) : (mput l x v).length = l.length + 1 := by
  rw [mput_new (mget_none.1 h)]; simp
end

theorem mget_dropAll : ∀ (l : List Int) (cl : List (Int × Key)) (c : Int), mget (dropAll cl l) c = if c ∈ l then none else mget cl c
  | [], cl, c => by simp [dropAll]
  | x :: l, cl, c => by
    show mget (dropAll (mdel cl x) l) c = _
    rw [mget_dropAll l, mget_mdel]
    by_cases h1 : c ∈ l <;> by_cases h2 : x = c <;> simp [h1, h2, eq_comm]
theorem dropAll_nodup : ∀ (l : List Int) {cl : List (Int × Key)}, (cl.map (·.1)).Nodup → ((dropAll cl l).map (·.1)).Nodup
  | [], _, h => h
  | _ :: l, _, h => dropAll_nodup l (mdel_nodup h)
theorem dropAll_le : ∀ (l : List Int) (cl : List (Int × Key)), (dropAll cl l).length ≤ cl.length
  | [], _ => Nat.le_refl _
  | x :: l, cl => Nat.le_trans (dropAll_le l (mdel cl x)) (mdel_length_le cl x)
theorem dropAll_length : ∀ {l : List Int} {cl : List (Int × Key)}, (cl.map (·.1)).Nodup → l.Nodup → (∀ c ∈ l, ∃ k, mget cl c = some k) → (dropAll cl l).length + l.length = cl.length
  | [], _, _, _, _ => rfl
  | x :: l, cl, hn, hl, h => by
    obtain ⟨k, hk⟩ := h x (by simp)
    have h1 := mdel_length hn hk
    simp only [List.nodup_cons] at hl
    have h2 := dropAll_length (l := l) (mdel_nodup (x := x) hn) hl.2 fun c hc => by
      obtain ⟨k', hk'⟩ := h c (by simp [hc])
      refine ⟨k', ?_⟩
      have hxc : x ≠ c := fun e => hl.1 (e ▸ hc)
      rw [mget_mdel, if_neg hxc, hk']
    show (dropAll (mdel cl x) l).length + (l.length + 1) = _
    omega

structure BM.Ok (M : BM) (n : Nat) : Prop where
  cln : (M.cl.map (·.1)).Nodup
  fln : (M.fl.map (·.1)).Nodup
  cl : M.cl.length ≤ n
  fl : M.fl.length ≤ n
  len : ∀ k l, mget M.fl k = some l → l.length ≤ n
  good : ∀ c k, mget M.cl c = some k → goodI c
  into : ∀ c k, mget M.cl c = some k → ∃ l, mget M.fl k = some l ∧ c ∈ l
  back : ∀ k l, mget M.fl k = some l → l ≠ [] ∧ l.Nodup ∧ ∀ c ∈ l, mget M.cl c = some k

theorem BM.Ok.mono {M : BM} {n m : Nat} (h : M.Ok n) (hm : n ≤ m) : M.Ok m := ⟨h.cln, h.fln, Nat.le_trans h.cl hm, Nat.le_trans h.fl hm, fun k l e => Nat.le_trans (h.len k l e) hm, h.good, h.into, h.back⟩
theorem BM.Ok.empty : BM.Ok ⟨[], []⟩ 0 := ⟨by simp, by simp, by simp, by simp, fun _ _ h => by simp [mget] at h, fun _ _ h => by simp [mget] at h, fun _ _ h => by simp [mget] at h, fun _ _ h => by simp [mget] at h⟩

theorem BM.ask_new {M : BM} {k : Key} {c : Int} (hc : ¬ c < 0) (h : mget M.cl c = none) : M.ask k c = (((mget M.fl k).getD []).isEmpty, 0, ⟨mput M.fl k ((mget M.fl k).getD [] ++ [c]), mput M.cl c k⟩) := by
  unfold BM.ask; rw [if_neg hc, if_neg (by simp [h])]

theorem BM.Ok.ask {M : BM} {n : Nat} (h : M.Ok n) (k : Key) (c : Int) (hg : goodI c) : (M.ask k c).2.2.Ok (n + 1) := by
  by_cases hc : c < 0
  · unfold BM.ask; rw [if_pos hc]; exact h.mono (by omega)
  cases hm : mget M.cl c with
  | some k0 => unfold BM.ask; rw [if_neg hc, if_pos (by simp [hm])]; exact h.mono (by omega)
  | none =>
    rw [BM.ask_new hc hm]
    have hold : ∀ x ∈ (mget M.fl k).getD [], mget M.cl x = some k := by
      cases hk : mget M.fl k with
      | none => simp
      | some l => exact (h.back k l hk).2.2
    have hnd : ((mget M.fl k).getD []).Nodup := by
      cases hk : mget M.fl k with
      | none => simp
      | some l => exact (h.back k l hk).2.1
    have hln : ((mget M.fl k).getD []).length ≤ n := by
      cases hk : mget M.fl k with
      | none => simp
      | some l => exact h.len k l hk
    generalize hl0 : (mget M.fl k).getD [] = l0 at hold hnd hln
    have hcn : c ∉ l0 := fun hx => by rw [hold c hx] at hm; cases hm
    refine ⟨mput_nodup h.cln, mput_nodup h.fln, ?_, ?_, fun k' l he => ?_, fun x k' he => ?_, fun x k' he => ?_, fun k' l he => ?_⟩
    · have := mput_length M.cl c k; have := h.cl; simp only; omega
    · have := mput_length M.fl k (l0 ++ [c]); have := h.fl; simp only; omega
    · rw [mget_mput] at he
      split at he
      · cases he; simp; omega
      · have := h.len k' l he; omega
    · rw [mget_mput] at he
      split at he
      · next e => subst e; exact hg
      · exact h.good x k' he
    · simp only [mget_mput] at he ⊢
      by_cases e : c = x
      · subst e
        rw [if_pos rfl] at he; cases he
        exact ⟨l0 ++ [c], by simp, by simp⟩
      · rw [if_neg e] at he
        obtain ⟨l, hl, hx⟩ := h.into x k' he
        by_cases e2 : k = k'
        · subst e2
          refine ⟨l0 ++ [c], by simp, ?_⟩
          have : l0 = l := by rw [← hl0, hl]; rfl
          rw [this]; simp [hx]
        · exact ⟨l, by rw [if_neg e2, hl], hx⟩
    · simp only [mget_mput] at he ⊢
      by_cases e2 : k = k'
      · subst e2
        rw [if_pos rfl] at he; cases he
        refine ⟨by simp, List.nodup_append.2 ⟨hnd, by simp, fun a ha b hb e => by simp at hb; subst hb; subst e; exact hcn ha⟩, fun x hx => ?_⟩
        rcases List.mem_append.1 hx with hx | hx
        · have hxc : c ≠ x := fun e => hcn (e ▸ hx)
          rw [if_neg hxc]; exact hold x hx
        · simp at hx; subst hx; simp
      · rw [if_neg e2] at he
        obtain ⟨b1, b2, b3⟩ := h.back k' l he
        refine ⟨b1, b2, fun x hx => ?_⟩
        have hxc : c ≠ x := fun e => by rw [e, b3 x hx] at hm; cases hm
        rw [if_neg hxc]
        exact b3 x hx

theorem BM.land_ok {M : BM} {n : Nat} (h : M.Ok n) (k : Key) : (M.land k).2.2.2.Ok n := by
  unfold BM.land
  cases hk : mget M.fl k with
  | none => exact h
  | some l =>
    obtain ⟨b1, b2, b3⟩ := h.back k l hk
    refine ⟨dropAll_nodup l h.cln, mdel_nodup h.fln, Nat.le_trans (dropAll_le _ _) h.cl, Nat.le_trans (mdel_length_le _ _) h.fl, fun k' l' he => ?_, fun x k' he => ?_, fun x k' he => ?_, fun k' l' he => ?_⟩
    · simp only [mget_mdel] at he
      split at he
      · cases he
      · exact h.len k' l' he
    · simp only [mget_dropAll] at he
      split at he
      · cases he
      · exact h.good x k' he
    · simp only [mget_dropAll] at he
      split at he
      · cases he
      · next hx =>
        obtain ⟨l', hl', hm'⟩ := h.into x k' he
        refine ⟨l', ?_, hm'⟩
        have hne : k ≠ k' := fun e => by subst e; rw [hk] at hl'; cases hl'; exact hx hm'
        simp only [mget_mdel, if_neg hne, hl']
    · simp only [mget_mdel] at he
      split at he
      · cases he
      · next hne =>
        obtain ⟨c1, c2, c3⟩ := h.back k' l' he
        refine ⟨c1, c2, fun x hx => ?_⟩
        have hxl : x ∉ l := fun hm => by have := b3 x hm; rw [c3 x hx] at this; exact hne (Option.some.inj this).symm
        simp only [mget_dropAll, if_neg hxl]
        exact c3 x hx

theorem BM.leave_ok {M : BM} {n : Nat} (h : M.Ok n) (c : Int) : (M.leave c).2.2.Ok n := by
  unfold BM.leave
  cases hm : mget M.cl c with
  | none => exact h
  | some k =>
    obtain ⟨l, hl, hcl⟩ := h.into c k hm
    obtain ⟨b1, b2, b3⟩ := h.back k l hl
    simp only [hl]
    match l, b1 with
    | x :: l, _ =>
      simp only
      by_cases hx : x = c
      · rw [if_pos hx]
        have := BM.land_ok h k
        simp only [BM.land, hl] at this
        exact this
      · rw [if_neg hx]
        have hsub : ((x :: l).filter fun y => decide (y ≠ c)).Sublist (x :: l) := List.filter_sublist
        generalize hr : ((x :: l).filter fun y => decide (y ≠ c)) = r at hsub
        have hmem : ∀ y, y ∈ r ↔ y ∈ x :: l ∧ y ≠ c := fun y => by rw [← hr, List.mem_filter]; simp
        refine ⟨mdel_nodup h.cln, mput_nodup h.fln, Nat.le_trans (mdel_length_le _ _) h.cl, ?_, fun k' l' he => ?_, fun y k' he => ?_, fun y k' he => ?_, fun k' l' he => ?_⟩
        · simp only [mput_length_has hl]; exact h.fl
        · simp only [mget_mput] at he
          split at he
          · cases he; exact Nat.le_trans hsub.length_le (h.len k _ hl)
          · exact h.len k' l' he
        · simp only [mget_mdel] at he
          split at he
          · cases he
          · exact h.good y k' he
        · simp only [mget_mdel] at he
          split at he
          · cases he
          · next hne =>
            obtain ⟨l', hl', hm'⟩ := h.into y k' he
            simp only [mget_mput]
            by_cases e : k = k'
            · subst e
              rw [hl] at hl'; cases hl'
              exact ⟨r, by rw [if_pos rfl], (hmem y).2 ⟨hm', fun e => hne e.symm⟩⟩
            · exact ⟨l', by rw [if_neg e, hl'], hm'⟩
        · simp only [mget_mput] at he
          simp only [mget_mdel]
          split at he
          · next e =>
            subst e; cases he
            refine ⟨fun e => ?_, b2.sublist hsub, fun y hy => ?_⟩
            · have : x ∈ ([] : List Int) := by rw [← e]; exact (hmem x).2 ⟨by simp, hx⟩
              simp at this
            · obtain ⟨h1, h2⟩ := (hmem y).1 hy
              rw [if_neg (Ne.symm h2)]; exact b3 y h1
          · next hne =>
            obtain ⟨c1, c2, c3⟩ := h.back k' l' he
            refine ⟨c1, c2, fun y hy => ?_⟩
            have hyc : c ≠ y := fun e => by subst e; rw [c3 _ hy] at hm; exact hne (Option.some.inj hm).symm
            rw [if_neg hyc]; exact c3 y hy

/-! ### the contracts, with the law -/
/-- A board in blocks from B on, apart from those of ks, that keeps its law; n: how many may be on it. -/
def Bd (B : Nat) (ks : List Nat) (w : World) (pb : Nat) (M : BM) (n : Nat) : Prop := (∃ F, BoardR w pb F M ∧ ∀ i ∈ F, B ≤ i ∧ i ∉ ks) ∧ M.Ok n ∧ B ≤ w.heap.size ∧ ∀ k ∈ ks, k < w.heap.size
/-- What was there below B, and the blocks of ks, stay. -/
def Kept (B : Nat) (ks : List Nat) (w w' : World) : Prop := Below B w w' ∧ ∀ k ∈ ks, w'.heap[k]? = w.heap[k]?

theorem Kept.cell {B : Nat} {ks : List Nat} {w w' : World} (h : Kept B ks w w') {a : Addr} {v : Value} (hc : w.cell? a = some v) (ha : a.block ∈ ks) : w'.cell? a = some v := (World.cell?_of_block (h.2 _ ha)).trans hc
theorem Kept.low {B : Nat} {ks : List Nat} {w w' : World} (h : Kept B ks w w') {a : Addr} {v : Value} (hc : w.cell? a = some v) (ha : a.block < B) : w'.cell? a = some v := (World.cell?_of_block (h.1.block _ ha)).trans hc
theorem Kept.of_touch {B : Nat} {ks F : List Nat} {w w' : World} (h : Touch F w w') (hB : B ≤ w.heap.size) (hk : ∀ k ∈ ks, k < w.heap.size) (hF : ∀ i ∈ F, B ≤ i ∧ i ∉ ks) : Kept B ks w w' :=
  ⟨h.below hB fun i hi => (hF i hi).1, fun k h1 => h.block k (hk k h1) fun h2 => (hF k h2).2 h1⟩
theorem Kept.trans {B : Nat} {ks : List Nat} {w w' w'' : World} (h : Kept B ks w w') (k : Kept B ks w' w'') : Kept B ks w w'' := ⟨h.1.trans k.1, fun i hi => (k.2 i hi).trans (h.2 i hi)⟩

theorem Bd.kept {B : Nat} {ks : List Nat} {w w' : World} {pb : Nat} {M : BM} {n : Nat} (h : Bd B ks w pb M n) (ht : Touch [] w w') : Bd B ks w' pb M n := by
  obtain ⟨⟨F, h1, h2⟩, h3, h4, h5⟩ := h
  exact ⟨⟨F, h1.kept ht (by simp), h2⟩, h3, Nat.le_trans h4 ht.size, fun k hk => Nat.lt_of_lt_of_le (h5 k hk) ht.size⟩
theorem Bd.keeps {B : Nat} {ks : List Nat} {w w' : World} {pb : Nat} {M : BM} {n : Nat} (h : Bd B ks w pb M n) (ht : Touch [] w w') : Kept B ks w w' := Kept.of_touch ht h.2.2.1 h.2.2.2 (by simp)
theorem Bd.mono {B : Nat} {ks : List Nat} {w : World} {pb : Nat} {M : BM} {n m : Nat} (h : Bd B ks w pb M n) (hm : n ≤ m) : Bd B ks w pb M m := ⟨h.1, h.2.1.mono hm, h.2.2⟩
/-- A block that comes to be: it is watched from now on. -/
theorem Bd.box {B : Nat} {ks : List Nat} {w : World} {pb : Nat} {M : BM} {n : Nat} (h : Bd B ks w pb M n) (o : Obj) : Bd B (w.heap.size :: ks) (w.alloc o) pb M n := by
  obtain ⟨⟨F, h1, h2⟩, h3, h4, h5⟩ := h
  have ht : Touch [] w (w.alloc o) := (Touch.refl _ _).alloc _
  refine ⟨⟨F, h1.kept ht (by simp), fun i hi => ⟨(h2 i hi).1, ?_⟩⟩, h3, Nat.le_trans h4 ht.size, fun k hk => ?_⟩
  · simp only [List.mem_cons, not_or]
    exact ⟨fun e => by have := h1.lt i hi; omega, (h2 i hi).2⟩
  · rcases List.mem_cons.1 hk with rfl | hk
    · simp
    · exact Nat.lt_of_lt_of_le (h5 k hk) ht.size
theorem Touch.below0 {w w' : World} (h : Touch [] w w') {B : Nat} (hB : B ≤ w.heap.size) : Below B w w' := h.below hB (by simp)

theorem NewB (w : World) : Calls Try.prog 8 #[] w fun e w' => ∃ pb, e = .returned (.pointer (some ⟨pb, 0, none⟩)) ∧ Bd w.heap.size [] w' pb ⟨[], []⟩ 0 ∧ Touch [] w w' :=
  (New_any w).mono fun _ _ ⟨pb, F, he, h, ht, hF⟩ => ⟨pb, he, ⟨⟨F, h, fun i hi => ⟨hF i hi, by simp⟩⟩, BM.Ok.empty, ht.size, by simp⟩, ht⟩

theorem AskB {B : Nat} {ks : List Nat} {w : World} {pb : Nat} {M : BM} {n : Nat} (h : Bd B ks w pb M n) (hn : n < 1000000) (k : Key) (hk : goodK k) (c : Int) (hg : goodI c) :
    Calls Try.prog 12 #[.pointer (some ⟨pb, 0, none⟩), .agg #[.string k.db, .string k.role, .int .i64 k.format, .string k.norm], .int .i64 c] w fun e w' =>
      e = .returned (.tuple #[.bool (M.ask k c).1, .int .i64 (M.ask k c).2.1]) ∧ Bd B ks w' pb (M.ask k c).2.2 (n + 1) ∧ Kept B ks w w' := by
  obtain ⟨⟨F, h1, h2⟩, h3, h4, h5⟩ := h
  have hl : ((mget M.fl k).getD []).length < 1000000 := by
    cases hm : mget M.fl k with
    | none => simp
    | some l => have := h3.len k l hm; simp only [Option.getD_some]; omega
  refine (Ask_any h1 k c hg hk (Nat.lt_of_le_of_lt h3.cl hn) (Nat.lt_of_le_of_lt h3.fl hn) hl).mono ?_
  rintro e w' ⟨he, F', r1, r2, r3⟩
  refine ⟨he, ⟨⟨F', r1, fun i hi => ?_⟩, h3.ask k c hg, Nat.le_trans h4 r2.size, fun k hk => Nat.lt_of_lt_of_le (h5 k hk) r2.size⟩, Kept.of_touch r2 h4 h5 h2⟩
  rcases r3 i hi with h | h
  · exact h2 i h
  · exact ⟨by omega, fun hm => by have := h5 i hm; omega⟩

theorem LeaderB {B : Nat} {ks : List Nat} {w : World} {pb : Nat} {M : BM} {n : Nat} (h : Bd B ks w pb M n) (k : Key) (hk : goodK k) :
    Calls Try.prog 11 #[.pointer (some ⟨pb, 0, none⟩), .agg #[.string k.db, .string k.role, .int .i64 k.format, .string k.norm]] w fun e w' =>
      e = .returned (.tuple #[.int .i64 (M.leader k).1, .bool (M.leader k).2]) ∧ Bd B ks w' pb M n ∧ Touch [] w w' := by
  have h' := h
  obtain ⟨⟨F, h1, h2⟩, h3, h4⟩ := h
  exact (Leader_any h1 k hk).mono fun _ _ ⟨he, ht⟩ => ⟨he, h'.kept ht, ht⟩

theorem WaitsB {B : Nat} {ks : List Nat} {w : World} {pb : Nat} {M : BM} {n : Nat} (h : Bd B ks w pb M n) (c : Int) (hc : goodI c) :
    Calls Try.prog 13 #[.pointer (some ⟨pb, 0, none⟩), .int .i64 c] w fun e w' => e = .returned (.tuple #[keyV (M.waits c).1, .bool (M.waits c).2]) ∧ Bd B ks w' pb M n ∧ Touch [] w w' := by
  have h' := h
  obtain ⟨⟨F, h1, h2⟩, h3, h4⟩ := h
  exact (Waits_any h1 c hc).mono fun _ _ ⟨he, ht⟩ => ⟨he, h'.kept ht, ht⟩

theorem OpenB {B : Nat} {ks : List Nat} {w : World} {pb : Nat} {M : BM} {n : Nat} (h : Bd B ks w pb M n) :
    Calls Try.prog 14 #[.pointer (some ⟨pb, 0, none⟩)] w fun e w' => e = .returned (.int .i64 M.fl.length) ∧ w = w' := by
  obtain ⟨⟨F, h1, h2⟩, h3, h4⟩ := h
  exact Open_any h1

/-- A list that was handed out. -/
def Told (B : Nat) (w : World) (v : Value) (l : List Int) : Prop := w.ownsRow 0 3 1 v l.length (intsV l) ∧ ∀ i, v.ownBlock = some i → B ≤ i
theorem Told.kept {B : Nat} {w w' : World} {v : Value} {l : List Int} (h : Told B w v l) (ht : Touch [] w w') : Told B w' v l := ⟨own_touch h.1 ht (by simp), h.2⟩

theorem own_kept {B base n size : Nat} {e : TypeId} {xs : List Value} {ks : List Nat} {w w' : World} {v : Value} (h : w.ownsRow base e size v n xs) (ht : Kept B ks w w') (hs : ∀ i, v.ownBlock = some i → i ∈ ks) : w'.ownsRow base e size v n xs := by
  refine ⟨h.1, ?_⟩
  rcases h.2 with hn | ⟨g, cap, cur, rfl, hb, hgg, rest⟩
  · exact .inl hn
  · exact .inr ⟨g, cap, cur, rfl, hb, (ht.2 g (hs g rfl)).trans hgg, rest⟩
theorem Bd.rest {B : Nat} {ks ks' : List Nat} {w : World} {pb : Nat} {M : BM} {n : Nat} (h : Bd B ks w pb M n) (hk : ∀ k ∈ ks', k ∈ ks) : Bd B ks' w pb M n := by
  obtain ⟨⟨F, h1, h2⟩, h3, h4, h5⟩ := h
  exact ⟨⟨F, h1, fun i hi => ⟨(h2 i hi).1, fun hm => (h2 i hi).2 (hk i hm)⟩⟩, h3, h4, fun k hm => h5 k (hk k hm)⟩
theorem LandB {B : Nat} {ks : List Nat} {w : World} {pb : Nat} {M : BM} {n : Nat} (h : Bd B ks w pb M n) (hn : n < 1000000) (k : Key) (hk : goodK k) :
    Calls Try.prog 15 #[.pointer (some ⟨pb, 0, none⟩), .agg #[.string k.db, .string k.role, .int .i64 k.format, .string k.norm]] w fun e w' =>
      ∃ A cp, e = .returned (.tuple #[.int .i64 (M.land k).1, .slice A (M.land k).2.1.length cp, .bool (M.land k).2.2.1]) ∧ Bd B ((Value.slice A (M.land k).2.1.length cp).ownBlock.toList ++ ks) w' pb (M.land k).2.2.2 n ∧ Told w.heap.size w' (.slice A (M.land k).2.1.length cp) (M.land k).2.1 ∧ Kept B ks w w' := by
  have h' := h
  have hok := BM.land_ok h.2.1 k
  obtain ⟨⟨F, h1, h2⟩, h3, h4, h5⟩ := h
  unfold BM.land at hok ⊢
  cases hm : mget M.fl k with
  | none =>
    refine (Land_none h1 k hk hm).mono ?_
    rintro e w' ⟨rfl, ht⟩
    exact ⟨none, 0, rfl, h'.kept ht, ⟨World.ownsRow_nil _ _ _ _, fun i hi => by simp [Value.ownBlock] at hi⟩, h'.keeps ht⟩
  | some l =>
    obtain ⟨b1, b2, b3⟩ := h3.back k l hm
    have hl := h3.len k l hm
    simp only [hm] at hok
    match l, b1 with
    | c :: l, _ =>
      refine (Land_some h1 k hk c l hm (fun x hx => h3.good x k (b3 x hx)) (by simp at hl; omega)).mono ?_
      rintro e w' ⟨v, F', rfl, r1, r2, r3, r4, r5⟩
      obtain ⟨A, cp, rfl⟩ := own_slice' r4
      refine ⟨A, cp, rfl, ⟨⟨F', r1, fun i hi => ⟨(h2 i (r3 i hi)).1, ?_⟩⟩, hok, Nat.le_trans h4 r2.size, ?_⟩, ⟨r4, fun i hi => (r5 i hi).1⟩, Kept.of_touch r2 h4 h5 h2⟩
      · rw [List.mem_append, Option.mem_toList]
        rintro (h | h)
        · exact (r5 i h).2 hi
        · exact (h2 i (r3 i hi)).2 h
      · intro k hk
        rw [List.mem_append, Option.mem_toList] at hk
        rcases hk with h | h
        · exact (r4.lt k h).2
        · exact Nat.lt_of_lt_of_le (h5 k h) r2.size

theorem LeaveB {B : Nat} {ks : List Nat} {w : World} {pb : Nat} {M : BM} {n : Nat} (h : Bd B ks w pb M n) (hn : n < 1000000) (c : Int) (hc : goodI c) :
    Calls Try.prog 16 #[.pointer (some ⟨pb, 0, none⟩), .int .i64 c] w fun e w' =>
      ∃ A cp, e = .returned (.tuple #[.slice A (M.leave c).1.length cp, .bool (M.leave c).2.1]) ∧ Bd B ((Value.slice A (M.leave c).1.length cp).ownBlock.toList ++ ks) w' pb (M.leave c).2.2 n ∧ Told w.heap.size w' (.slice A (M.leave c).1.length cp) (M.leave c).1 ∧ Kept B ks w w' := by
  have hok := BM.leave_ok h.2.1 c
  obtain ⟨⟨F, h1, h2⟩, h3, h4, h5⟩ := h
  refine (Leave_any h1 c hc (fun k l e x hx => h3.good x k ((h3.back k l e).2.2 x hx)) (fun k l e => Nat.lt_of_le_of_lt (h3.len k l e) hn) (Nat.lt_of_le_of_lt h3.fl hn) (fun k e => by
    obtain ⟨l, hl, _⟩ := h3.into c k e
    have := (h3.back k l hl).1
    match l, this with
    | x :: l, _ => exact ⟨x, l, hl⟩)).mono ?_
  rintro e w' ⟨v, F', rfl, r1, r2, r3, r4, r5⟩
  obtain ⟨A, cp, rfl⟩ := own_slice' r4
  have hFF : ∀ i ∈ F', B ≤ i ∧ i ∉ ks := fun i hi => by
    rcases r3 i hi with h | h
    · exact h2 i h
    · exact ⟨by omega, fun hm => by have := h5 i hm; omega⟩
  refine ⟨A, cp, rfl, ⟨⟨F', r1, fun i hi => ⟨(hFF i hi).1, ?_⟩⟩, hok, Nat.le_trans h4 r2.size, ?_⟩, ⟨r4, fun i hi => (r5 i hi).1⟩, Kept.of_touch r2 h4 h5 h2⟩
  · rw [List.mem_append, Option.mem_toList]
    rintro (h | h)
    · exact (r5 i h).2 hi
    · exact (hFF i hi).2 h
  · intro k hk
    rw [List.mem_append, Option.mem_toList] at hk
    rcases hk with h | h
    · exact (r4.lt k h).2
    · exact Nat.lt_of_lt_of_le (h5 k h) r2.size
end Go.Proofs.Ytjmgookpmngmaab
