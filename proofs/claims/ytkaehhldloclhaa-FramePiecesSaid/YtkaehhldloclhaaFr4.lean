/- frame: the next message. -/
import Derived.Test.YtkaehhldloclhaaFr3
namespace Go.Proofs.Ytkaehhldloclhaa
open Go Go.RowKit

def afterN (M : FM) : Nx → Bool × Msg × FM
  | .wait => (false, ⟨0, ByteArray.empty⟩, M)
  | .bad e => (false, ⟨0, ByteArray.empty⟩, ⟨M.left, M.first, e⟩)
  | .msg m r => (true, m, ⟨r, false, M.e⟩)
def nextPost (w : World) (p : Nat) (L : Nat × Nat) (x : Bool × Msg × FM) : Ending → World → Prop := fun e w' => e = .returned (.tuple #[msgV x.2.1, .bool x.1]) ∧ RdE w' p x.2.2 L ∧ Touch [p] w w'
theorem RowG.sub {w : World} {g o n : Nat} {l : ByteArray} (h : RowG u8C 1 w (some ⟨g, o, none⟩) n l.data.toList) (a b : Nat) (hab : a ≤ b) (hb : b ≤ n) : RowG u8C 1 w (some ⟨g, o + a, none⟩) (b - a) (l.extract a b).data.toList := by
  obtain ⟨h1, h2⟩ := h
  refine ⟨?_, ?_⟩
  · rw [extract_list]; simp; simp at h1; omega
  · rcases h2 with h0 | ⟨g', o', he, hg, h2⟩
    · exact .inl (by omega)
    · cases he
      refine .inr ⟨g, o + a, rfl, hg, fun j x hj i v hv => ?_⟩
      rw [extract_list, List.getElem?_take] at hj
      split at hj
      · rw [List.getElem?_drop] at hj
        have := h2 _ _ hj i v hv
        rw [show o + a + j * 1 + i = o + (a + j) * 1 + i by omega]
        exact this
      · cases hj
theorem row_at {w : World} {A : Option Addr} {n : Nat} {l : ByteArray} (h : RowG u8C 1 w A n l.data.toList) (hn : 0 < n) : ∃ g o, A = some ⟨g, o, none⟩ ∧ g < w.heap.size ∧ w.cell? ⟨g, o, none⟩ = some (.int .u8 ((l.data.toList.headD 0).toNat)) := by
  obtain ⟨h1, h2⟩ := h
  rcases h2 with h0 | ⟨g, o, rfl, hg, h2⟩
  · omega
  · refine ⟨g, o, rfl, hg, ?_⟩
    cases hl : l.data.toList with
    | nil => rw [hl] at h1; simp at h1; omega
    | cons x r => exact h2 0 x (by rw [hl]; rfl) 0 _ rfl
theorem lenF_pre (l : ByteArray) (f : Bool) (h : hd f ≤ l.size) : numF (l.extract 0 (hd f)) ((hd f : Int) - 4) 4 = (lenF l f, (hd f : Int), 0) := by
  have h0 := hd_pos f
  have hs : (l.extract 0 (hd f)).size = hd f := by rw [ByteArray.size_extract]; omega
  have e : ((l.extract 0 (hd f)).data.toList.drop ((hd f : Int) - 4).toNat).take 4 = (l.data.toList.drop ((hd f : Int) - 4).toNat).take 4 := by
    rw [extract_list, Nat.sub_zero, List.drop_zero, List.drop_take, List.take_take]
    congr 1
    omega
  unfold lenF numF
  rw [e, hs, if_neg (by omega), if_neg (by omega), if_neg (by omega), if_neg (by omega)]
  simp
theorem lenF_bound (l : ByteArray) (f : Bool) : -4294967296 ≤ lenF l f ∧ lenF l f ≤ 4294967296 := by
  unfold lenF numF
  split
  · simp
  split
  · simp
  · dsimp only
    generalize hx : (l.data.toList.drop ((hd f : Int) - 4).toNat).take 4 = x
    have h := numOf_bound x (sgn x) 0 (by unfold sgn; split <;> simp; split <;> simp) (by unfold sgn; split <;> simp; split <;> simp)
    have hle : x.length ≤ 4 := by rw [← hx]; simp; omega
    have hpow : (256 : Int) ^ (0 + x.length) ≤ 256 ^ 4 := by
      have := Nat.pow_le_pow_right (n := 256) (by decide) (show 0 + x.length ≤ 4 by omega)
      have h3 : ((256 ^ (0 + x.length) : Nat) : Int) ≤ ((256 ^ 4 : Nat) : Int) := Int.ofNat_le.2 this
      rw [Int.natCast_pow, Int.natCast_pow] at h3
      exact h3
    generalize (256 : Int) ^ (0 + x.length) = pw at h hpow
    have e3 : (256 : Int) ^ 4 = 4294967296 := by decide
    omega

theorem next_short {w : World} {p : Nat} {L : Nat × Nat} {M : FM} (h : RdE w p M L) (hs : M.left.size < hd M.first) :
    Calls Try.prog 24 #[.pointer (some ⟨p, 0, none⟩)] w (nextPost w p L (afterN M .wait)) := by
  have ta : Touch [] w (w.alloc (.cells #[.int .u8 0, .string ⟨#[]⟩] 23)) := (Touch.refl _ _).alloc _
  have hH := head_any (h.kept0 ta)
  have hg : (w.alloc (.cells #[.int .u8 0, .string ⟨#[]⟩] 23)).heap[w.heap.size]? = some (.cells #[.int .u8 0, .string ⟨#[]⟩] 23 (0, 0)) := heap_alloc_new w _
  have hp : p < w.heap.size := h.lt
  obtain ⟨A, n, cp, h⟩ := h
  obtain ⟨c0, _, _, _⟩ := (h.kept0 ta).cells
  have hn := h.n_eq
  have hlt : n < hd M.first := by omega
  have hgp : w.heap.size ≠ p := by omega
  have K := Lib.hid (And.intro ((h.kept0 ta)) (And.intro ta hg))
  have HH := Lib.hid hH
  have h5 := (hd_pos M.first).2
  clear hH h hn hs ta hg hp
  unfold nextPost
  generalize hd M.first = hdm at *
  go_enter Try.func24, Try.ntmps24
  go_wp2_with fail
  go_wp2_with (go_at_call 27; refine HH.out.mono ?_; rintro e w1 ⟨rfl, rfl⟩)
  obtain ⟨k1, k2, _⟩ := K.out
  exact bodyPost_ret (v := .tuple #[msgV ⟨0, ByteArray.empty⟩, .bool false]) (by simp [results, Try.results24, go_sem, msgV]; rfl) rfl ⟨rfl, ⟨A, n, cp, k1⟩, k2.mono (by simp)⟩
theorem set2 {W : World} {g : Nat} {a b : Value} {t : TypeId} (h : W.heap[g]? = some (.cells #[a, b] t (0, 0))) :
    W.cell? ⟨g, 0, none⟩ = some a ∧ W.cell? ⟨g, 1, none⟩ = some b ∧ W.frozen? ⟨g, 0, none⟩ = false ∧ W.frozen? ⟨g, 1, none⟩ = false := ⟨by rw [cell_of h]; rfl, by rw [cell_of h]; rfl, frozen_of h 0, frozen_of h 1⟩
theorem set2' {W : World} {g : Nat} {a b : Value} {t : TypeId} (h : W.heap[g]? = some (.cells #[a, b] t (0, 0))) (v : Value) : (W.setCell ⟨g, 0, none⟩ v).heap[g]? = some (.cells #[v, b] t (0, 0)) := (block_set h v).trans rfl
theorem set2'' {W : World} {g : Nat} {a b : Value} {t : TypeId} (h : W.heap[g]? = some (.cells #[a, b] t (0, 0))) (v u : Value) : ((W.setCell ⟨g, 0, none⟩ v).setCell ⟨g, 1, none⟩ u).heap[g]? = some (.cells #[v, u] t (0, 0)) := (block_set (set2' h v) u).trans rfl
/-- What is wrong is noted. -/
theorem RdB.setE {w : World} {p n cp : Nat} {L : Nat × Nat} {A : Option Addr} {M : FM} (h : RdB w p A n cp M L) (e : Nat) (he : e ≤ 16) : RdB (w.setCell ⟨p, 2, none⟩ (.int .i64 e)) p A n cp ⟨M.left, M.first, e⟩ L := by
  have t : Touch [p] w (w.setCell ⟨p, 2, none⟩ (.int .i64 e)) := (Touch.refl _ _).setCell _ (.inl (by simp))
  have hs : n = 0 ∨ ∀ a, A = some a → a.block ∉ [p] := by
    rcases h.far with h0 | h0
    · exact .inl h0
    · exact .inr fun a ha => by simpa using h0 a ha
  exact ⟨(block_set h.blk _).trans rfl, h.row.keptX t hs, h.le, h.far, h.sz, h.bl, he, h.ty.keptX t hs⟩
theorem cell_other {w : World} {p g i : Nat} {v : Value} (hne : g ≠ p) : (w.setCell ⟨p, i, none⟩ v).heap[g]? = w.heap[g]? := RowKit.Below.heap_setCell _ _ _ _ hne
end Go.Proofs.Ytkaehhldloclhaa
