/- norm: the printed functions of parameters, in plain words. -/
import Derived.Test.YtgfppniifjabdaaNoQS
import Derived.Test.YtgfppniifjabdaaPbx5
import Derived.Test.YtgfppniifjabdaaNo5
namespace Go.Proofs.Ytgfppniifjabdaa
open Go Go.RowKit Go.Proofs.Ytgfppniifjabdaa.Pb Go.Proofs.YtgfppniifjabdaaW.PrintWords Go.Proofs.YtgfppniifjabdaaW.PrintLast
set_option linter.unusedSimpArgs false

theorem parD_nonneg : ∀ (l : List UInt8) (i : Nat) (n v : Int), 0 ≤ n → parD l i n = some v → 0 ≤ v
  | [], i, n, v, hn, h => by
    unfold parD at h
    cases h
    exact hn
  | c :: r, i, n, v, hn, h => by
    unfold parD at h
    split at h
    · cases h
    · rename_i hc
      refine parD_nonneg r (i + 1) _ v ?_ h
      split
      · omega
      · exact hn
theorem parL_nonneg (kd : Int) (l : List UInt8) (v : Int) (h : parL kd l = some v) : 0 ≤ v := by
  unfold parL at h
  split at h
  · cases h
  · obtain ⟨n, hn, rfl⟩ := Option.map_eq_some_iff.1 h
    have := parD_nonneg _ _ _ _ (Int.le_refl 0) hn
    split
    · exact Int.le_refl 0
    · exact this
theorem param_f (x : S35) (hs : x.f1.size ≤ 140737488351232) : norm_param.f x.f0 x.f1 x.f2 = some ((parL x.f0 (tl x.f1)).getD 0, (parL x.f0 (tl x.f1)).isSome) := if_pos hs
/-! Fill -/
def putS (args : List ByteArray) (null : List Bool) (n : Int) (x : S35) : S35 := if rdOf false null (n - 1) = true then ⟨1, ⟨#[110, 117, 108, 108]⟩, x.f2⟩ else ⟨3, rdOf ByteArray.empty args (n - 1), x.f2⟩
def fillS (args : List ByteArray) (null : List Bool) : List S35 → Option (List S35)
  | [] => some []
  | x :: r => match parL x.f0 (tl x.f1) with
    | none => (fillS args null r).map (x :: ·)
    | some n => if n < 1 ∨ (args.length : Int) < n then none else (fillS args null r).map (putS args null n x :: ·)
def fillR (acc : List S35) : Option (List S35) → List S35 × Int
  | none => ([], 8)
  | some m => (acc ++ m, 0)
theorem fillR_cons (acc : List S35) (y : S35) (o : Option (List S35)) : fillR (acc ++ [y]) o = fillR acc (o.map (y :: ·)) := by
  cases o with
  | none => rfl
  | some m =>
    show (acc ++ [y] ++ m, (0 : Int)) = (acc ++ (y :: m), 0)
    simp
section
variable (args : List ByteArray) (null : List Bool) (hl : args.length = null.length) (hal : args.length ≤ 1000)
include hl hal
theorem fill_l (l : List S35) (hn : l.length ≤ 3000) (hx : ∀ x ∈ l, x.f1.size ≤ 140737488351232) : ∀ (m k i : Nat) (acc : List S35), i + m = l.length → 2 * m + 2 < k → acc.length ≤ i → norm_Fill.l0 k args null acc l (l.length : Int) (i : Int) = some (fillR acc (fillS args null (l.drop i))) := by
  intro m
  induction m with
  | zero =>
    intro k i acc hi hk ha
    obtain ⟨k, rfl⟩ : ∃ j, k = j + 1 := ⟨k - 1, by omega⟩
    simp only [norm_Fill.l0]
    rw [if_neg (by omega), List.drop_of_length_le (by omega)]
    show _ = some (acc ++ [], (0 : Int))
    rw [List.append_nil]
  | succ m ih =>
    intro k i acc hi hk ha
    obtain ⟨k, rfl⟩ : ∃ j, k = j + 2 := ⟨k - 2, by omega⟩
    have hlt : i < l.length := by omega
    have hgo : ∀ k' y, 2 * m + 2 < k' → norm_Fill.l0 k' args null (acc ++ [y]) l (l.length : Int) (wrap64 ((i : Int) + 1)) = some (fillR acc ((fillS args null (l.drop (i + 1))).map (y :: ·))) := by
      intro k' y hk'
      rw [wrp (by omega) (by omega), show ((i : Int) + 1) = ((i + 1 : Nat) : Int) by omega, ih k' (i + 1) _ (by omega) hk' (by rw [List.length_append, List.length_singleton]; omega), fillR_cons]
    rw [show k + 2 = (k + 1) + 1 from rfl, norm_Fill.l0, if_pos (by omega), if_pos (by omega), if_pos (by omega), rdT l i hlt, param_f _ (hx _ (List.getElem_mem hlt)), Option.bind_some, List.drop_eq_getElem_cons hlt]
    unfold fillS
    cases hp : parL l[i].f0 (tl l[i].f1) with
    | none =>
      show (if false = true then _ else _) = _
      rw [if_neg (by decide), if_pos (by omega)]
      exact hgo _ _ (by omega)
    | some n =>
      have h0 := parL_nonneg _ _ _ hp
      show (if true = true then (if n < 1 then norm_Fill.j1 (k + 1) args null acc n l (l.length : Int) (i : Int) true l[i].f0 l[i].f1 l[i].f2 else norm_Fill.j1 (k + 1) args null acc n l (l.length : Int) (i : Int) (decide (n > (args.length : Int))) l[i].f0 l[i].f1 l[i].f2) else _) = some (fillR acc (if n < 1 ∨ (args.length : Int) < n then none else _))
      rw [if_pos rfl]
      have hbad : norm_Fill.j1 (k + 1) args null acc n l (l.length : Int) (i : Int) true l[i].f0 l[i].f1 l[i].f2 = some ([], 8) := by
        rw [norm_Fill.j1, if_pos rfl]
      by_cases h1 : n < 1
      · rw [if_pos h1, if_pos (.inl h1), hbad]
        rfl
      · rw [if_neg h1]
        by_cases h2 : (args.length : Int) < n
        · rw [decide_eq_true h2, if_pos (.inr h2), hbad]
          rfl
        · rw [decide_eq_false (show ¬ n > (args.length : Int) from h2), if_neg (by omega), norm_Fill.j1, if_neg (by decide), wrp (by omega) (by omega), if_pos (by omega), if_pos (by omega), if_pos (show acc.length < 4398046511104 by omega), if_pos (show n - 1 < (args.length : Int) by omega), if_pos (show acc.length < 4398046511104 by omega)]
          unfold putS
          by_cases hb : rdOf false null (n - 1) = true
          · rw [if_pos hb, if_pos hb]
            exact hgo _ _ (by omega)
          · rw [if_neg hb, if_neg hb]
            exact hgo _ _ (by omega)
theorem fill_f (l : List S35) (hn : l.length ≤ 3000) (hx : ∀ x ∈ l, x.f1.size ≤ 140737488351232) (k : Nat) (hk : 6010 < k) : norm_Fill.f k l args null = some (fillR [] (fillS args null l)) := by
  unfold norm_Fill.f
  rw [if_pos (by omega)]
  exact fill_l args null hl hal l hn hx l.length k 0 [] (by omega) (by omega) (Nat.le_refl _)
end
/-! Binds -/
def bindsS (l : List S35) (n : Int) : Int := l.foldl (fun n x => mx n ((parL x.f0 (tl x.f1)).getD 0)) n
theorem mx_ge (a b : Int) : a ≤ mx a b ∧ b ≤ mx a b ∧ (mx a b = a ∨ mx a b = b) := by unfold mx; split <;> omega
theorem binds_l (l : List S35) (hn : l.length ≤ 3000) (hx : ∀ x ∈ l, x.f1.size ≤ 140737488351232) : ∀ (m k i : Nat) (n : Int), i + m = l.length → m + 2 < k → norm_Binds.l0 k n l (l.length : Int) (i : Int) = some (bindsS (l.drop i) n) := by
  intro m
  induction m with
  | zero =>
    intro k i n hi hk
    obtain ⟨k, rfl⟩ : ∃ j, k = j + 1 := ⟨k - 1, by omega⟩
    simp only [norm_Binds.l0]
    rw [if_neg (by omega), List.drop_of_length_le (by omega)]
    rfl
  | succ m ih =>
    intro k i n hi hk
    obtain ⟨k, rfl⟩ : ∃ j, k = j + 1 := ⟨k - 1, by omega⟩
    have hlt : i < l.length := by omega
    simp only [norm_Binds.l0]
    rw [if_pos (by omega), if_pos (by omega), if_pos (by omega), rdT l i hlt, param_f _ (hx _ (List.getElem_mem hlt)), Option.bind_some, wrp (by omega) (by omega), show ((i : Int) + 1) = ((i + 1 : Nat) : Int) by omega, ih k (i + 1) _ (by omega) (by omega), List.drop_eq_getElem_cons hlt]
    rfl
theorem binds_f (l : List S35) (hn : l.length ≤ 3000) (hx : ∀ x ∈ l, x.f1.size ≤ 140737488351232) (k : Nat) (hk : 3010 < k) : norm_Binds.f k l = some (bindsS l 0) :=
  binds_l l hn hx l.length k 0 0 (by omega) (by omega)
/-! what is filled -/
theorem binds_le : ∀ (l : List S35) (n N : Int), n ≤ N → (∀ x ∈ l, (parL x.f0 (tl x.f1)).getD 0 ≤ N) → bindsS l n ≤ N
  | [], n, N, h, _ => h
  | x :: r, n, N, h, hx => by
    refine binds_le r _ N ?_ (fun y hy => hx y (List.mem_cons_of_mem _ hy))
    have := hx x List.mem_cons_self
    show mx n ((parL x.f0 (tl x.f1)).getD 0) ≤ N
    rcases (mx_ge n ((parL x.f0 (tl x.f1)).getD 0)).2.2 with e | e <;> rw [e] <;> omega
theorem binds_ge : ∀ (l : List S35) (n : Int), n ≤ bindsS l n ∧ ∀ x ∈ l, (parL x.f0 (tl x.f1)).getD 0 ≤ bindsS l n
  | [], n => ⟨Int.le_refl n, fun x hx => by cases hx⟩
  | x :: r, n => by
    obtain ⟨a, b⟩ := binds_ge r (mx n ((parL x.f0 (tl x.f1)).getD 0))
    obtain ⟨c, d, _⟩ := mx_ge n ((parL x.f0 (tl x.f1)).getD 0)
    refine ⟨Int.le_trans c a, fun y hy => ?_⟩
    rcases List.mem_cons.1 hy with rfl | hy
    · exact Int.le_trans d a
    · exact b y hy
theorem par_other (kd : Int) (t : List UInt8) (h : kd ≠ 5) : parL kd t = none := if_pos (.inl h)
theorem filled (args : List ByteArray) (null : List Bool) : ∀ (l m : List S35), fillS args null l = some m → m.length = l.length ∧ (∀ y ∈ m, parL y.f0 (tl y.f1) = none) ∧ (∀ x ∈ l, (parL x.f0 (tl x.f1)).getD 0 ≤ (args.length : Int)) ∧ ((∀ x ∈ l, (parL x.f0 (tl x.f1)).getD 0 ≤ 0) → m = l) ∧ (∀ y ∈ m, y ∈ l ∨ ∃ n x, y = putS args null n x)
  | [], m, h => by
    unfold fillS at h
    cases h
    exact ⟨rfl, fun y hy => (by cases hy), fun y hy => (by cases hy), fun _ => rfl, fun y hy => (by cases hy)⟩
  | x :: r, m, h => by
    unfold fillS at h
    cases hp : parL x.f0 (tl x.f1) with
    | none =>
      rw [hp] at h
      obtain ⟨m', hm, rfl⟩ := Option.map_eq_some_iff.1 h
      obtain ⟨a, b, c, d, e⟩ := filled args null r m' hm
      refine ⟨by simp [a], fun y hy => ?_, fun y hy => ?_, fun hz => ?_, fun y hy => ?_⟩
      · rcases List.mem_cons.1 hy with rfl | hy
        · exact hp
        · exact b y hy
      · rcases List.mem_cons.1 hy with rfl | hy
        · rw [hp]
          show (0 : Int) ≤ _
          omega
        · exact c y hy
      · rw [d (fun y hy => hz y (List.mem_cons_of_mem _ hy))]
      · rcases List.mem_cons.1 hy with rfl | hy
        · exact .inl List.mem_cons_self
        · rcases e y hy with h | h
          · exact .inl (List.mem_cons_of_mem _ h)
          · exact .inr h
    | some n =>
      rw [hp] at h
      simp only [] at h
      split at h
      · cases h
      · rename_i hn
        obtain ⟨m', hm, rfl⟩ := Option.map_eq_some_iff.1 h
        obtain ⟨a, b, c, d, e⟩ := filled args null r m' hm
        have hk : (putS args null n x).f0 ≠ 5 := by
          unfold putS
          split
          · show (1 : Int) ≠ 5
            decide
          · show (3 : Int) ≠ 5
            decide
        refine ⟨by simp [a], fun y hy => ?_, fun y hy => ?_, fun hz => ?_, fun y hy => ?_⟩
        · rcases List.mem_cons.1 hy with rfl | hy
          · exact par_other _ _ hk
          · exact b y hy
        · rcases List.mem_cons.1 hy with rfl | hy
          · rw [hp]
            show n ≤ _
            omega
          · exact c y hy
        · have := hz x List.mem_cons_self
          rw [hp] at this
          have : n ≤ 0 := this
          omega
        · rcases List.mem_cons.1 hy with rfl | hy
          · exact .inr ⟨n, x, rfl⟩
          · rcases e y hy with h | h
            · exact .inl (List.mem_cons_of_mem _ h)
            · exact .inr h
end Go.Proofs.Ytgfppniifjabdaa
