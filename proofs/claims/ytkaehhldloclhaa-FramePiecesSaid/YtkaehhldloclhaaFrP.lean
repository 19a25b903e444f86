/- Frames in plain words: the next message, all of them, what is fed in pieces. -/
import Derived.Test.YtkaehhldloclhaaOctPlain
namespace Go.Proofs.Ytkaehhldloclhaa
open Go.RowKit

structure Msg where
  kind : UInt8
  body : ByteArray
inductive Nx
  | wait
  | bad (e : Nat)
  | msg (m : Msg) (rest : ByteArray)
def hd (f : Bool) : Nat := if f then 4 else 5
def kindF (l : ByteArray) (f : Bool) : UInt8 := if f then 0 else l.data.toList.headD 0
def lenF (l : ByteArray) (f : Bool) : Int := (numF l ((hd f : Int) - 4) 4).1
def printable (c : UInt8) : Bool := decide (33 ≤ c.toNat) && decide (c.toNat ≤ 126)
def nextF (l : ByteArray) (f : Bool) : Nx :=
  if l.size < hd f then .wait
  else if f = false ∧ printable (kindF l f) = false then .bad 5
  else if lenF l f < 4 then .bad 4
  else if 4096 < lenF l f then .bad 2
  else if l.size < hd f - 4 + (lenF l f).toNat then .wait
  else .msg ⟨kindF l f, l.extract (hd f) (hd f - 4 + (lenF l f).toNat)⟩ (l.extract (hd f - 4 + (lenF l f).toNat) l.size)
/-- A reader: what is left, whether a first message comes, what was wrong. -/
structure FM where
  left : ByteArray
  first : Bool
  e : Nat
def runs : Nat → ByteArray → Bool → List Msg × FM
  | 0, l, f => ([], ⟨l, f, 0⟩)
  | k + 1, l, f => match nextF l f with
    | .wait => ([], ⟨l, f, 0⟩)
    | .bad e => ([], ⟨l, f, e⟩)
    | .msg m r => (m :: (runs k r false).1, (runs k r false).2)
def runF (l : ByteArray) (f : Bool) : List Msg × FM := runs (l.size + 1) l f
def feedF (M : FM) (s : ByteArray) : List Msg × FM := if M.e = 0 then runF (M.left ++ s) M.first else ([], M)

theorem hd_pos (f : Bool) : 4 ≤ hd f ∧ hd f ≤ 5 := by cases f <;> simp [hd]
theorem nextF_msg {l : ByteArray} {f : Bool} {m : Msg} {r : ByteArray} (h : nextF l f = .msg m r) :
    hd f ≤ l.size ∧ (f = false → printable (kindF l f) = true) ∧ 4 ≤ lenF l f ∧ lenF l f ≤ 4096 ∧ hd f - 4 + (lenF l f).toNat ≤ l.size ∧
      m = ⟨kindF l f, l.extract (hd f) (hd f - 4 + (lenF l f).toNat)⟩ ∧ r = l.extract (hd f - 4 + (lenF l f).toNat) l.size := by
  unfold nextF at h
  split at h
  · cases h
  split at h
  · cases h
  split at h
  · cases h
  split at h
  · cases h
  split at h
  · cases h
  rename_i h1 h2 h3 h4 h5
  cases h
  refine ⟨by omega, fun hf => ?_, by omega, by omega, by omega, rfl, rfl⟩
  cases hp : printable (kindF l f) with
  | true => rfl
  | false => exact absurd ⟨hf, hp⟩ h2
theorem nextF_rest {l : ByteArray} {f : Bool} {m : Msg} {r : ByteArray} (h : nextF l f = .msg m r) : r.size + 4 ≤ l.size := by
  obtain ⟨h1, _, h3, h4, h5, _, rfl⟩ := nextF_msg h
  have := hd_pos f
  rw [ByteArray.size_extract]
  omega
theorem runs_more : ∀ {k k' : Nat} {l : ByteArray} {f : Bool}, l.size < k → l.size < k' → runs k l f = runs k' l f := by
  intro k
  induction k with
  | zero => intro k' l f h; omega
  | succ k ih =>
    intro k' l f h h'
    obtain ⟨k', rfl⟩ : ∃ m, k' = m + 1 := ⟨k' - 1, by omega⟩
    unfold runs
    split <;> rename_i hn
    · rfl
    · rfl
    · have hr := nextF_rest hn
      rw [ih (k' := k') (by omega) (by omega)]
theorem runF_eq (l : ByteArray) (f : Bool) : runF l f = match nextF l f with
    | .wait => ([], ⟨l, f, 0⟩)
    | .bad e => ([], ⟨l, f, e⟩)
    | .msg m r => (m :: (runF r false).1, (runF r false).2) := by
  have h1 : runF l f = runs (l.size + 1) l f := rfl
  rw [h1, runs]
  split <;> rename_i hn
  · rfl
  · rfl
  · have hr := nextF_rest hn
    rw [runs_more (k' := _ + 1) (by omega) (Nat.lt_succ_self _)]
    rfl
theorem runF_wait {l : ByteArray} {f : Bool} (h : nextF l f = .wait) : runF l f = ([], ⟨l, f, 0⟩) := by rw [runF_eq, h]
theorem runF_bad {l : ByteArray} {f : Bool} {e : Nat} (h : nextF l f = .bad e) : runF l f = ([], ⟨l, f, e⟩) := by rw [runF_eq, h]
theorem runF_msg {l r : ByteArray} {f : Bool} {m : Msg} (h : nextF l f = .msg m r) : runF l f = (m :: (runF r false).1, (runF r false).2) := by rw [runF_eq, h]

/-! ### more bytes behind -/
theorem numF_app (l t : ByteArray) (a : Nat) (h : a + 4 ≤ l.size) : numF (l ++ t) a 4 = numF l a 4 := by
  have hl : l.data.toList.length = l.size := by simp
  simp only [numF]
  have e : (((l ++ t).data.toList.drop (a : Int).toNat).take 4) = ((l.data.toList.drop (a : Int).toNat).take 4) := by
    rw [ByteArray.data_append, Array.toList_append, Int.toNat_natCast, List.drop_append_of_le_length (by omega), List.take_append_of_le_length (by simp; omega)]
  rw [e, ByteArray.size_append, if_neg (by omega), if_neg (by omega), if_neg (by omega), if_neg (by omega)]
theorem lenF_app (l t : ByteArray) (f : Bool) (h : hd f ≤ l.size) : lenF (l ++ t) f = lenF l f := by
  have h0 := hd_pos f
  unfold lenF
  rw [show (hd f : Int) - 4 = ((hd f - 4 : Nat) : Int) by omega, numF_app l t _ (by omega)]
theorem kindF_app (l t : ByteArray) (f : Bool) (h : hd f ≤ l.size) : kindF (l ++ t) f = kindF l f := by
  have h0 := hd_pos f
  unfold kindF
  have hl : l.data.toList.length = l.size := by simp
  rw [ByteArray.data_append, Array.toList_append]
  cases hd' : l.data.toList with
  | nil => simp [hd'] at hl; omega
  | cons x r => rfl
theorem extract_app_left (l t : ByteArray) (a b : Nat) (h : b ≤ l.size) : (l ++ t).extract a b = l.extract a b := by
  apply ByteArray.ext
  apply Array.toList_inj.1
  have hl : l.data.toList.length = l.size := by simp
  simp only [ByteArray.data_extract, ByteArray.data_append, Array.toList_extract, Array.toList_append, List.extract_eq_take_drop]
  by_cases hab : a ≤ b
  · rw [List.drop_append_of_le_length (by omega), List.take_append_of_le_length (by simp; omega)]
  · rw [show b - a = 0 by omega]; simp
theorem extract_app_right (l t : ByteArray) (a : Nat) (h : a ≤ l.size) : (l ++ t).extract a (l ++ t).size = l.extract a l.size ++ t := by
  apply ByteArray.ext
  apply Array.toList_inj.1
  have hl : l.data.toList.length = l.size := by simp
  have ht : t.data.toList.length = t.size := by simp
  simp only [ByteArray.data_extract, ByteArray.data_append, Array.toList_extract, Array.toList_append, List.extract_eq_take_drop, ByteArray.size_append]
  rw [List.drop_append_of_le_length (by omega), List.take_of_length_le (by simp; omega), List.take_of_length_le (by simp)]
theorem nextF_app_bad {l : ByteArray} {f : Bool} {e : Nat} (t : ByteArray) (h : nextF l f = .bad e) : nextF (l ++ t) f = .bad e := by
  have h1 : hd f ≤ l.size := by
    refine Classical.byContradiction fun hc => ?_
    unfold nextF at h
    rw [if_pos (by omega)] at h
    cases h
  unfold nextF at h ⊢
  rw [lenF_app l t f h1, kindF_app l t f h1, ByteArray.size_append, if_neg (by omega)]
  rw [if_neg (by omega)] at h
  split at h <;> rename_i c1
  · rw [if_pos c1]; exact h
  split at h <;> rename_i c2
  · rw [if_neg c1, if_pos c2]; exact h
  split at h <;> rename_i c3
  · rw [if_neg c1, if_neg c2, if_pos c3]; exact h
  split at h <;> cases h
theorem nextF_app_msg {l r : ByteArray} {f : Bool} {m : Msg} (t : ByteArray) (h : nextF l f = .msg m r) : nextF (l ++ t) f = .msg m (r ++ t) := by
  obtain ⟨h1, h2, h3, h4, h5, rfl, rfl⟩ := nextF_msg h
  unfold nextF
  rw [lenF_app l t f h1, kindF_app l t f h1, extract_app_left l t _ _ h5, extract_app_right l t _ h5, ByteArray.size_append]
  rw [if_neg (by omega), if_neg (fun hc => by rw [h2 hc.1] at hc; cases hc.2), if_neg (by omega), if_neg (by omega), if_neg (by omega)]
/-- Bytes behind: what was whole is told, and what was wrong stays wrong. -/
theorem runF_app : ∀ (k : Nat) (l t : ByteArray) (f : Bool), l.size < k →
    ((runF l f).2.e = 0 → runF (l ++ t) f = ((runF l f).1 ++ (runF ((runF l f).2.left ++ t) (runF l f).2.first).1, (runF ((runF l f).2.left ++ t) (runF l f).2.first).2)) ∧
    ((runF l f).2.e ≠ 0 → (runF (l ++ t) f).1 = (runF l f).1 ∧ (runF (l ++ t) f).2.e = (runF l f).2.e) := by
  intro k
  induction k with
  | zero => intro l t f h; omega
  | succ k ih =>
    intro l t f h
    cases hn : nextF l f with
    | wait => rw [runF_wait hn]; exact ⟨fun _ => rfl, fun h => absurd rfl h⟩
    | bad e => rw [runF_bad hn, runF_bad (nextF_app_bad t hn)]; exact ⟨fun h => by simp at h; subst h; rfl, fun _ => ⟨rfl, rfl⟩⟩
    | msg m r =>
      have hr := nextF_rest hn
      obtain ⟨i1, i2⟩ := ih r t false (by omega)
      rw [runF_msg hn, runF_msg (nextF_app_msg t hn)]
      refine ⟨fun h => ?_, fun h => ?_⟩
      · rw [i1 h]; rfl
      · obtain ⟨j1, j2⟩ := i2 h
        exact ⟨by rw [j1], j2⟩
/-- Fed in two pieces. -/
theorem feed_app (M : FM) (s t : ByteArray) :
    (feedF M (s ++ t)).1 = (feedF M s).1 ++ (feedF (feedF M s).2 t).1 ∧ (feedF M (s ++ t)).2.e = (feedF (feedF M s).2 t).2.e ∧ ((feedF M (s ++ t)).2.e = 0 → (feedF M (s ++ t)).2 = (feedF (feedF M s).2 t).2) := by
  by_cases h0 : M.e = 0
  · have e1 : ∀ x, feedF M x = runF (M.left ++ x) M.first := fun x => if_pos h0
    obtain ⟨i1, i2⟩ := runF_app _ (M.left ++ s) t M.first (Nat.lt_succ_self _)
    rw [e1, e1, ← ByteArray.append_assoc]
    by_cases h1 : (runF (M.left ++ s) M.first).2.e = 0
    · have e2 : feedF (runF (M.left ++ s) M.first).2 t = runF ((runF (M.left ++ s) M.first).2.left ++ t) (runF (M.left ++ s) M.first).2.first := if_pos h1
      rw [e2, i1 h1]
      exact ⟨rfl, rfl, fun _ => rfl⟩
    · have e2 : feedF (runF (M.left ++ s) M.first).2 t = ([], (runF (M.left ++ s) M.first).2) := if_neg h1
      obtain ⟨j1, j2⟩ := i2 h1
      rw [e2, j1, j2]
      exact ⟨by simp, rfl, fun h => absurd h h1⟩
  · have e1 : ∀ x, feedF M x = ([], M) := fun x => if_neg h0
    rw [e1, e1, e1]
    exact ⟨rfl, rfl, fun h => absurd h h0⟩
theorem runF_left : ∀ (k : Nat) (l : ByteArray) (f : Bool), l.size < k → (runF l f).2.left.size ≤ l.size ∧ (runF l f).1.length + (runF l f).2.left.size ≤ l.size ∧ ∀ m ∈ (runF l f).1, m.body.size ≤ 4092 := by
  intro k
  induction k with
  | zero => intro l f h; omega
  | succ k ih =>
    intro l f h
    cases hn : nextF l f with
    | wait => rw [runF_wait hn]; simp
    | bad e => rw [runF_bad hn]; simp
    | msg m r =>
      have hr := nextF_rest hn
      obtain ⟨i1, i2, i3⟩ := ih r false (by omega)
      rw [runF_msg hn]
      refine ⟨by show (runF r false).2.left.size ≤ _; omega, by simp only [List.length_cons]; omega, ?_⟩
      intro x hx
      rcases List.mem_cons.1 hx with rfl | hx
      · obtain ⟨_, _, h3, h4, h5, rfl, _⟩ := nextF_msg hn
        have := hd_pos f
        simp only [ByteArray.size_extract]
        omega
      · exact i3 x hx
end Go.Proofs.Ytkaehhldloclhaa
