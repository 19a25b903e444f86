/- vers, packed: what a call makes of what is told, and what it leaves as it was. -/
import Derived.Test.YtjmgookpmngmaacVe7
namespace Go.Proofs.Ytjmgookpmngmaac
open Go Go.RowKit Go.Maps

/-- What was there below B, and the blocks of ks, stay. -/
def Kept (B : Nat) (ks : List Nat) (w w' : World) : Prop := Below B w w' ∧ ∀ k ∈ ks, w'.heap[k]? = w.heap[k]?
theorem Kept.cell {B : Nat} {ks : List Nat} {w w' : World} (h : Kept B ks w w') {a : Addr} {v : Value} (hc : w.cell? a = some v) (ha : a.block < B ∨ a.block ∈ ks) : w'.cell? a = some v := by
  rcases ha with ha | ha
  · exact (World.cell?_of_block (h.1.block _ ha)).trans hc
  · exact (World.cell?_of_block (h.2 _ ha)).trans hc
theorem Kept.of_touch {B : Nat} {ks F : List Nat} {w w' : World} (h : Touch F w w') (hB : B ≤ w.heap.size) (hF : ∀ i ∈ F, B ≤ i ∧ i ∉ ks) (hk : ∀ k ∈ ks, k < w.heap.size) : Kept B ks w w' :=
  ⟨h.below hB fun i hi => (hF i hi).1, fun k hm => h.block k (hk k hm) fun hf => (hF k hf).2 hm⟩
theorem Kept.trans {B : Nat} {ks : List Nat} {w w' w'' : World} (h : Kept B ks w w') (k : Kept B ks w' w'') : Kept B ks w w'' := ⟨h.1.trans k.1, fun i hi => (k.2 i hi).trans (h.2 i hi)⟩
theorem Kept.refl (B : Nat) (ks : List Nat) (w : World) : Kept B ks w w := ⟨Below.refl _ _, fun _ _ => rfl⟩
theorem Kept.rest {B : Nat} {ks ks' : List Nat} {w w' : World} (h : Kept B ks w w') (hk : ∀ k ∈ ks', k ∈ ks) : Kept B ks' w w' := ⟨h.1, fun k hm => h.2 k (hk k hm)⟩
theorem Touch.below0 {w w' : World} (h : Touch [] w w') {B : Nat} (hB : B ≤ w.heap.size) : Below B w w' := h.below hB (by simp)
/-- A row lies low, or is watched. -/
def LowA (B : Nat) (ks : List Nat) (A : Option Addr) (n : Nat) : Prop := n = 0 ∨ ∀ a, A = some a → a.block < B ∨ a.block ∈ ks
theorem NamesI.keptK {B : Nat} {ks : List Nat} {w w' : World} {A : Option Addr} {n : Nat} {l : List ByteArray} (h : NamesI w A n l) (t : Kept B ks w w') (hl : LowA B ks A n) (hs : w.heap.size ≤ w'.heap.size) : NamesI w' A n l := by
  obtain ⟨h1, h2⟩ := h
  refine ⟨h1, ?_⟩
  rcases h2 with h2 | ⟨g, o, rfl, hg, h2⟩
  · exact .inl h2
  · rcases hl with h0 | hl
    · exact .inl h0
    · exact .inr ⟨g, o, rfl, by omega, fun j hj => t.cell (h2 j hj) (hl ⟨g, o, none⟩ rfl)⟩
theorem NumsI.keptK {B : Nat} {ks : List Nat} {w w' : World} {A : Option Addr} {n : Nat} {l : List Int} (h : NumsI w A n l) (t : Kept B ks w w') (hl : LowA B ks A n) (hs : w.heap.size ≤ w'.heap.size) : NumsI w' A n l := by
  obtain ⟨h1, h2⟩ := h
  refine ⟨h1, ?_⟩
  rcases h2 with h2 | ⟨g, o, rfl, hg, h2⟩
  · exact .inl h2
  · rcases hl with h0 | hl
    · exact .inl h0
    · exact .inr ⟨g, o, rfl, by omega, fun j hj => t.cell (h2 j hj) (hl ⟨g, o, none⟩ rfl)⟩

/-- One that stands there, with what is told of it. -/
structure VA where
  ep : Int
  num : ByteArray → Int
  dirty : ByteArray → Int → Bool
def Ver (B : Nat) (ks : List Nat) (w : World) (pv : Nat) (M : VA) (n : Nat) : Prop :=
  ∃ bm rs, VerC w pv bm M.ep rs ∧ (∀ s, numOf rs s = M.num s) ∧ (∀ s c, dirtyOf rs s c = M.dirty s c) ∧ Small rs n ∧ (∀ i ∈ blocks pv bm rs, B ≤ i ∧ i ∉ ks) ∧ B ≤ w.heap.size ∧ (∀ k ∈ ks, k < w.heap.size) ∧ 0 ≤ M.ep ∧ M.ep ≤ n

theorem Ver.size {B : Nat} {ks : List Nat} {w : World} {pv : Nat} {M : VA} {n : Nat} (h : Ver B ks w pv M n) : B ≤ w.heap.size := by
  obtain ⟨bm, rs, h1, h2, h3, h4, h5, h6, h7, h8, h9⟩ := h; exact h6
theorem Ver.kept {B : Nat} {ks : List Nat} {w w' : World} {pv : Nat} {M : VA} {n : Nat} (h : Ver B ks w pv M n) (t : Touch [] w w') : Ver B ks w' pv M n := by
  obtain ⟨bm, rs, h1, h2, h3, h4, h5, h6, h7, h8, h9⟩ := h
  exact ⟨bm, rs, h1.kept0 t, h2, h3, h4, h5, Nat.le_trans h6 t.size, fun k hk => Nat.lt_of_lt_of_le (h7 k hk) t.size, h8, h9⟩
theorem Ver.keeps {B : Nat} {ks : List Nat} {w w' : World} {pv : Nat} {M : VA} {n : Nat} (h : Ver B ks w pv M n) (t : Touch [] w w') : Kept B ks w w' := by
  obtain ⟨bm, rs, h1, h2, h3, h4, h5, h6, h7, h8, h9⟩ := h
  exact Kept.of_touch t h6 (by simp) h7
theorem Ver.mono {B : Nat} {ks : List Nat} {w : World} {pv : Nat} {M : VA} {n m : Nat} (h : Ver B ks w pv M n) (hm : n ≤ m) : Ver B ks w pv M m := by
  obtain ⟨bm, rs, h1, h2, h3, h4, h5, h6, h7, h8, h9⟩ := h
  exact ⟨bm, rs, h1, h2, h3, h4.mono hm, h5, h6, h7, h8, by omega⟩
theorem Ver.rest {B : Nat} {ks ks' : List Nat} {w : World} {pv : Nat} {M : VA} {n : Nat} (h : Ver B ks w pv M n) (hk : ∀ k ∈ ks', k ∈ ks) : Ver B ks' w pv M n := by
  obtain ⟨bm, rs, h1, h2, h3, h4, h5, h6, h7, h8, h9⟩ := h
  exact ⟨bm, rs, h1, h2, h3, h4, fun i hi => ⟨(h5 i hi).1, fun hm => (h5 i hi).2 (hk i hm)⟩, h6, fun k hm => h7 k (hk k hm), h8, h9⟩
/-- A block that is new is watched from now on. -/
theorem Ver.watch {B : Nat} {ks : List Nat} {w w' : World} {pv : Nat} {M : VA} {n : Nat} (h : Ver B ks w pv M n) (t : Touch [] w w') (g : Nat) (h1 : w.heap.size ≤ g) (h2 : g < w'.heap.size) : Ver B (g :: ks) w' pv M n := by
  obtain ⟨bm, rs, h1', h2', h3, h4, h5, h6, h7, h8, h9⟩ := h
  refine ⟨bm, rs, h1'.kept0 t, h2', h3, h4, fun i hi => ⟨(h5 i hi).1, fun hm => ?_⟩, Nat.le_trans h6 t.size, fun k hk => ?_, h8, h9⟩
  · have := h1'.lt i hi
    rcases List.mem_cons.1 hm with e | hm
    · omega
    · exact (h5 i hi).2 hm
  · rcases List.mem_cons.1 hk with e | hk
    · omega
    · exact Nat.lt_of_lt_of_le (h7 k hk) t.size

theorem Ver.moved {B : Nat} {ks : List Nat} {w w' : World} {pv bm : Nat} {ep : Int} {rs rs' : List (ByteArray × Tab)} {n : Nat} (h5 : ∀ i ∈ blocks pv bm rs, B ≤ i ∧ i ∉ ks) (h6 : B ≤ w.heap.size) (h7 : ∀ k ∈ ks, k < w.heap.size) (m : TMoved w w' pv bm ep rs rs' n) {M : VA} (he : M.ep = ep) (h0 : 0 ≤ ep ∧ ep ≤ n) (h2 : ∀ s, numOf rs' s = M.num s) (h3 : ∀ s c, dirtyOf rs' s c = M.dirty s c) : Ver B ks w' pv M n ∧ Kept B ks w w' := by
  subst he
  refine ⟨⟨bm, rs', m.ver, h2, h3, m.small, fun i hi => ?_, Nat.le_trans h6 m.touch.size, fun k hk => Nat.lt_of_lt_of_le (h7 k hk) m.touch.size, h0.1, h0.2⟩, Kept.of_touch m.touch h6 h5 h7⟩
  rcases m.new i hi with q | q
  · exact h5 i q
  · exact ⟨by omega, fun hk => by have := h7 i hk; omega⟩

theorem NewV (w : World) : Calls Try.prog 8 #[] w fun e w' => ∃ pv, e = .returned (.pointer (some ⟨pv, 0, none⟩)) ∧ Ver w.heap.size [] w' pv ⟨0, fun _ => 0, fun _ _ => false⟩ 0 ∧ Touch [] w w' :=
  (New_any w).mono fun e w' ⟨pv, bm, he, h1, t, h2, h3⟩ => ⟨pv, he, ⟨bm, [], h1, fun _ => rfl, fun _ _ => rfl, ⟨by simp, by simp, by simp⟩, fun i hi => ⟨by simp [blocks, tabBlocks] at hi; omega, by simp⟩, t.size, by simp, by decide, by decide⟩, t⟩

section
variable {B : Nat} {ks : List Nat} {w : World} {pv : Nat} {M : VA} {n : Nat}
def VA.bump (M : VA) (l : List ByteArray) : VA := ⟨M.ep, fun s => M.num s + if hasB l s then 1 else 0, M.dirty⟩
def VA.mark (M : VA) (c : Int) (l : List ByteArray) : VA := ⟨M.ep, M.num, fun s c' => M.dirty s c' || (decide (c = c') && hasB l s)⟩
def VA.clean (M : VA) (c : Int) : VA := ⟨M.ep, M.num, fun s c' => M.dirty s c' && !decide (c = c')⟩
def VA.all (M : VA) : VA := ⟨M.ep + 1, M.num, M.dirty⟩

theorem low_apart {bm : Nat} {rs : List (ByteArray × Tab)} {A : Option Addr} (h5 : ∀ i ∈ blocks pv bm rs, B ≤ i ∧ i ∉ ks) {N : Nat} (hl : LowA B ks A N) : N = 0 ∨ ∀ a, A = some a → a.block ∉ blocks pv bm rs := hl.imp id fun hl a ha hm => by
  rcases hl a ha with q | q
  · have := (h5 _ hm).1; omega
  · exact (h5 _ hm).2 q
theorem BumpV (h : Ver B ks w pv M n) {A : Option Addr} {N cp : Nat} {l : List ByteArray} (hN : NamesI w A N l) (hl : LowA B ks A N) (hg : ∀ s ∈ l, goodS s) (hn : n + N < 1000000) :
    Calls Try.prog 11 #[.pointer (some ⟨pv, 0, none⟩), .slice A N cp] w fun e w' => e = .returned (.tuple #[]) ∧ Ver B ks w' pv (M.bump l) (n + N) ∧ Kept B ks w w' ∧ w.heap.size ≤ w'.heap.size := by
  obtain ⟨bm, rs, h1, h2, h3, h4, h5, h6, h7, h8, h9⟩ := h
  refine (Bump_any h1 h4 hN (low_apart h5 hl) hg hn).mono ?_
  rintro e w' ⟨rfl, rs', m, k1, k2⟩
  obtain ⟨v, k⟩ := Ver.moved (M := M.bump l) h5 h6 h7 m rfl ⟨h8, by simp; omega⟩ (fun s => by rw [k1, h2]; rfl) (fun s c => by rw [k2, h3]; rfl)
  exact ⟨rfl, v, k, m.touch.size⟩
theorem DirtyV (h : Ver B ks w pv M n) (c : Int) (hc : goodI c) {A : Option Addr} {N cp : Nat} {l : List ByteArray} (hN : NamesI w A N l) (hl : LowA B ks A N) (hg : ∀ s ∈ l, goodS s) (hn : n + N < 1000000) :
    Calls Try.prog 15 #[.pointer (some ⟨pv, 0, none⟩), .int .i64 c, .slice A N cp] w fun e w' => e = .returned (.tuple #[]) ∧ Ver B ks w' pv (M.mark c l) (n + N) ∧ Kept B ks w w' ∧ w.heap.size ≤ w'.heap.size := by
  obtain ⟨bm, rs, h1, h2, h3, h4, h5, h6, h7, h8, h9⟩ := h
  refine (Dirty_any h1 h4 c hc hN (low_apart h5 hl) hg hn).mono ?_
  rintro e w' ⟨rfl, rs', m, k1, k2⟩
  obtain ⟨v, k⟩ := Ver.moved (M := M.mark c l) h5 h6 h7 m rfl ⟨h8, by simp; omega⟩ (fun s => by rw [k1, h2]; rfl) (fun s c' => by rw [k2, h3]; rfl)
  exact ⟨rfl, v, k, m.touch.size⟩
theorem CleanV (h : Ver B ks w pv M n) (c : Int) (hc : goodI c) :
    Calls Try.prog 16 #[.pointer (some ⟨pv, 0, none⟩), .int .i64 c] w fun e w' => e = .returned (.tuple #[]) ∧ Ver B ks w' pv (M.clean c) n ∧ Kept B ks w w' ∧ w.heap.size ≤ w'.heap.size := by
  obtain ⟨bm, rs, h1, h2, h3, h4, h5, h6, h7, h8, h9⟩ := h
  refine (Clean_any h1 h4 c hc).mono ?_
  rintro e w' ⟨rfl, rs', m, k1, k2⟩
  obtain ⟨v, k⟩ := Ver.moved (M := M.clean c) h5 h6 h7 m rfl ⟨h8, h9⟩ (fun s => by rw [k1, h2]; rfl) (fun s c' => by rw [k2, h3]; rfl)
  exact ⟨rfl, v, k, m.touch.size⟩
theorem AllV (h : Ver B ks w pv M n) (hn : n < 1000000) :
    Calls Try.prog 12 #[.pointer (some ⟨pv, 0, none⟩)] w fun e w' => e = .returned (.tuple #[]) ∧ Ver B ks w' pv M.all (n + 1) ∧ Kept B ks w w' ∧ w.heap.size ≤ w'.heap.size := by
  obtain ⟨bm, rs, h1, h2, h3, h4, h5, h6, h7, h8, h9⟩ := h
  refine (All_any h1 h8 (by omega)).mono ?_
  rintro e w' ⟨rfl, v, t⟩
  have hp : ∀ i ∈ [pv], i ∈ blocks pv bm rs := by simp [blocks]
  obtain ⟨v', k⟩ := Ver.moved (M := M.all) (n := n + 1) h5 h6 h7 ⟨v, h4.mono (by omega), fun i hi => .inl hi, t.mono hp⟩ rfl ⟨by omega, by simp; omega⟩ h2 h3
  exact ⟨rfl, v', k, t.size⟩
theorem NumV (h : Ver B ks w pv M n) (s : ByteArray) (hs : goodS s) :
    Calls Try.prog 19 #[.pointer (some ⟨pv, 0, none⟩), .string s] w fun e w' => e = .returned (.int .i64 (M.num s)) ∧ w = w' := by
  obtain ⟨bm, rs, h1, h2, h3, h4, h5, h6, h7, h8, h9⟩ := h
  exact (Num_any h1 s hs).mono fun e w' ⟨he, hw⟩ => ⟨by rw [he, h2], hw⟩
theorem busyOf_iff {bm : Nat} {ep : Int} {rs : List (ByteArray × Tab)} (_h : VerC w pv bm ep rs) (l : List ByteArray) : busyOf rs l = true ↔ ∃ s ∈ l, ∃ c, dirtyOf rs s c = true := by
  unfold busyOf dirtyOf
  rw [List.any_eq_true]
  constructor
  · rintro ⟨s, hs, hb⟩
    cases hm : mget rs s with
    | none => rw [hm] at hb; simp at hb
    | some t =>
      rw [hm] at hb
      cases hd : t.dirty with
      | nil => simp [hd] at hb
      | cons x xs => exact ⟨s, hs, x.1, by simp [hm, hd, mget]⟩
  · rintro ⟨s, hs, c, hc⟩
    refine ⟨s, hs, ?_⟩
    cases hm : mget rs s with
    | none => rw [hm] at hc; simp at hc
    | some t =>
      rw [hm] at hc
      cases hd : t.dirty with
      | nil => simp [hd, mget] at hc
      | cons x xs => simp [hd]
theorem BusyV (h : Ver B ks w pv M n) {A : Option Addr} {N cp : Nat} {l : List ByteArray} (hN : NamesI w A N l) (hg : ∀ s ∈ l, goodS s) (hn : N < 1000000) :
    Calls Try.prog 18 #[.pointer (some ⟨pv, 0, none⟩), .slice A N cp] w fun e w' => ∃ b, e = .returned (.bool b) ∧ (b = true ↔ ∃ s ∈ l, ∃ c, M.dirty s c = true) ∧ w = w' := by
  obtain ⟨bm, rs, h1, h2, h3, h4, h5, h6, h7, h8, h9⟩ := h
  refine (Busy_any h1 hN hg hn).mono fun e w' ⟨he, hw⟩ => ⟨_, he, ?_, hw⟩
  rw [busyOf_iff h1]
  simp only [h3]
theorem FreshV (h : Ver B ks w pv M n) (E : Int) {A1 : Option Addr} {n1 c1 : Nat} {names : List ByteArray} (hN : NamesI w A1 n1 names) (hg : ∀ s ∈ names, goodS s) (hn : n1 < 1000000) {A2 : Option Addr} {n2 c2 : Nat} {nums : List Int} (hM : NumsI w A2 n2 nums) :
    Calls Try.prog 17 #[.pointer (some ⟨pv, 0, none⟩), .agg #[.int .i64 E, .slice A1 n1 c1, .slice A2 n2 c2]] w fun e w' => e = .returned (.bool (decide (E = M.ep) && decide (names.map M.num = nums))) ∧ Touch [] w w' := by
  obtain ⟨bm, rs, h1, h2, h3, h4, h5, h6, h7, h8, h9⟩ := h
  have e : numOf rs = M.num := funext h2
  exact (Fresh_any h1 E hN hg hn hM).mono fun e' w' ⟨he, t⟩ => ⟨by rw [he, freshB, e], t⟩
theorem TakeV (h : Ver B ks w pv M n) {A : Option Addr} {N cp : Nat} {l : List ByteArray} (hN : NamesI w A N l) (hg : ∀ s ∈ l, goodS s) (hn : N < 1000000) :
    Calls Try.prog 13 #[.pointer (some ⟨pv, 0, none⟩), .slice A N cp] w fun e w' => ∃ A1 c1 A2 c2, e = .returned (.agg #[.int .i64 M.ep, .slice A1 N c1, .slice A2 N c2]) ∧ w'.ownsRow w.heap.size 9 1 (.slice A1 N c1) N (strsV l) ∧
      w'.ownsRow w.heap.size 3 1 (.slice A2 N c2) N (numsV (l.map M.num)) ∧ (∀ i, (Value.slice A2 N c2).ownBlock = some i → (Value.slice A1 N c1).ownBlock ≠ some i) ∧ Touch [] w w' := by
  obtain ⟨bm, rs, h1, h2, h3, h4, h5, h6, h7, h8, h9⟩ := h
  have e : numOf rs = M.num := funext h2
  have := Take_any h1 hN hg hn (cp := cp)
  rwa [e] at this
end
end Go.Proofs.Ytjmgookpmngmaac
