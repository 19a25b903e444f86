/- norm: counting points by runes is counting them by bytes; number's closures. -/
import Derived.Lib.MapLaws
import Derived.Lib.TrimUEq
import Derived.Laws.RangeAny
import Derived.Test.YtgfppniifjabdaaNoS
import Derived.Test.YtgfppniifjabdaaProg
import Derived.Test.YtgfppniifjabdaaWWords
import Derived.Lib.Hide
import Derived.Below
import Derived.Tactics
import Derived.WalkKit
import Derived.BigQuiet
import Derived.RowKit
import Derived.RowKit3
import Derived.Deep.LoopGhost
import Derived.KernelRfl
import Derived.Laws.RangeString
namespace Go.Proofs.Ytgfppniifjabdaa
section
open Go Go.Lib

theorem len4 (L : List UInt8) (h : 3 < L.length) : ∃ x y z v r, L = x :: y :: z :: v :: r := by
  rcases L with _ | ⟨x, _ | ⟨y, _ | ⟨z, _ | ⟨v, r⟩⟩⟩⟩
  · simp at h
  · simp at h
  · simp at h
  · simp at h
  · exact ⟨x, y, z, v, r, rfl⟩
set_option maxRecDepth 100000 in
theorem cnt_step (L : List UInt8) (hL : L ≠ []) : 1 ≤ (decodeL L).2 ∧ L.count 46 = (if (decodeL L).1 = 46 then 1 else 0) + (L.drop (decodeL L).2).count 46 := by
  have hn : ∀ c : UInt8, 128 ≤ c.toNat → (c == 46) = false := by
    intro c h
    rw [beq_eq_false_iff_ne]
    intro e
    rw [e] at h
    exact absurd h (by decide)
  have hc : ∀ (c : UInt8) (r : List UInt8), 128 ≤ c.toNat → (c :: r).count 46 = r.count 46 := by
    intro c r h
    rw [List.count_cons, hn c h]
    rfl
  have hsh := decodeN_shape L.length (L.getD 0 0).toNat (L.getD 1 0).toNat (L.getD 2 0).toNat (L.getD 3 0).toNat
  rw [← decodeL_N] at hsh
  rcases hsh with ⟨h0, e⟩ | ⟨h0, hl, h1, hv, e⟩ | ⟨h0, hl, h1, h2, hv, _, e⟩ | ⟨h0, hl, h1, h2, h3, hv, _, e⟩ | e
  · rw [e]
    cases L with
    | nil => exact absurd rfl hL
    | cons x r =>
      refine ⟨Nat.le_refl _, ?_⟩
      show (x :: r).count 46 = (if x.toNat = 46 then 1 else 0) + r.count 46
      rw [List.count_cons]
      by_cases hx : x = 46
      · subst hx
        simp
        omega
      · have : ¬ x.toNat = 46 := fun e => hx (UInt8.toNat_inj.1 e)
        rw [if_neg this, beq_eq_false_iff_ne.2 hx]
        simp
  · have e2 : (decodeL L).2 = 2 := congrArg Prod.snd e
    have e1 := congrArg Prod.fst e
    have hr : ¬ (decodeL L).1 = 46 := by rw [e1]; show ¬ _ = 46; omega
    clear e e1 hv
    rw [e2, if_neg hr, Nat.zero_add]
    clear hr e2
    refine ⟨by decide, ?_⟩
    match L, hl, h0, h1 with
    | x :: y :: r, _, q0, q1 =>
      have q0 : x.toNat / 32 = 6 := q0
      have q1 : y.toNat / 64 = 2 := q1
      rw [hc x _ (by omega), hc y _ (by omega)]
      rfl
  · have e2 : (decodeL L).2 = 3 := congrArg Prod.snd e
    have e1 := congrArg Prod.fst e
    have hr : ¬ (decodeL L).1 = 46 := by rw [e1]; show ¬ _ = 46; omega
    clear e e1 hv
    rw [e2, if_neg hr, Nat.zero_add]
    clear hr e2
    refine ⟨by decide, ?_⟩
    match L, hl, h0, h1, h2 with
    | x :: y :: z :: r, _, q0, q1, q2 =>
      have q0 : x.toNat / 16 = 14 := q0
      have q1 : y.toNat / 64 = 2 := q1
      have q2 : z.toNat / 64 = 2 := q2
      rw [hc x _ (by omega), hc y _ (by omega), hc z _ (by omega)]
      rfl
  · have e2 : (decodeL L).2 = 4 := congrArg Prod.snd e
    have e1 := congrArg Prod.fst e
    have hr : ¬ (decodeL L).1 = 46 := by rw [e1]; show ¬ _ = 46; omega
    clear e e1 hv
    rw [e2, if_neg hr, Nat.zero_add]
    clear hr e2
    refine ⟨by decide, ?_⟩
    obtain ⟨x, y, z, v, r, rfl⟩ := len4 L hl
    have q0 : x.toNat / 8 = 30 := h0
    have q1 : y.toNat / 64 = 2 := h1
    have q2 : z.toNat / 64 = 2 := h2
    have q3 : v.toNat / 64 = 2 := h3
    clear h0 h1 h2 h3
    rw [hc x _ (by omega), hc y _ (by omega), hc z _ (by omega), hc v _ (by omega)]
    rfl
  · cases L with
    | nil => exact absurd rfl hL
    | cons x r =>
      have hx : 128 ≤ x.toNat := by
        apply Classical.byContradiction
        intro h
        have e2 : decodeL (x :: r) = (x.toNat, 1) := by
          rw [decodeL_N]
          unfold decodeN
          rw [if_pos (by show x.toNat < 128; omega)]
          rfl
        rw [e2] at e
        have e3 := congrArg Prod.fst e
        simp at e3
        omega
      have e1 : (decodeL (x :: r)).1 ≠ 46 := by rw [e]; show (65533 : Nat) ≠ 46; omega
      have e2 : (decodeL (x :: r)).2 = 1 := by rw [e]
      rw [e2, if_neg e1, hc x r hx, Nat.zero_add]
      exact ⟨Nat.le_refl _, rfl⟩
theorem pt_step (s : ByteArray) (pos : Nat) (h : pos < s.size) : 1 ≤ (Utf8.decode s pos).2 ∧ (s.data.toList.drop pos).count 46 = (if (Utf8.decode s pos).1 = 46 then 1 else 0) + (s.data.toList.drop (pos + (Utf8.decode s pos).2)).count 46 := by
  have hne : s.data.toList.drop pos ≠ [] := by
    intro e
    have := congrArg List.length e
    rw [List.length_drop, Array.length_toList] at this
    have hz : s.data.size = s.size := rfl
    simp at this
    omega
  have := cnt_step _ hne
  rw [decodeL_drop, List.drop_drop] at this
  exact this
end
section
open Go Go.RowKit Go.Proofs.YtgfppniifjabdaaW.PrintWords

/-- The text under work stands in its cell. -/
structure NumS (base gS : Nat) (w0 w : World) (s : ByteArray) : Prop where
  c : w.heap[gS]? = some (.cells #[.string s] 9 (0, 0))
  bel : Below base w0 w
  h : base ≤ gS
abbrev ptrS (g : Nat) : Value := .pointer (some ⟨g, 0, none⟩)
def bl (s : ByteArray) : List UInt8 := s.data.toList
theorem bl_len (s : ByteArray) : (bl s).length = s.size := by simp [bl]
def test1 : List UInt8 → Bool
  | c :: d :: _ => c == 48 && d != 46
  | _ => false
def test2 (l : List UInt8) : Bool := l.getLast? == some 48
def NTest (b : Bool) (base gS : Nat) (w0 : World) (s : ByteArray) (e : Ending) (w' : World) : Prop := e = .returned (.bool b) ∧ NumS base gS w0 w' s
def NStep (base gS : Nat) (w0 : World) (s : ByteArray) (e : Ending) (w' : World) : Prop := e = .returned (.tuple #[]) ∧ NumS base gS w0 w' s
theorem bl_at (s : ByteArray) (i : Nat) (h : i < s.size) : (bl s)[i]? = some s[i] := by
  rw [List.getElem?_eq_getElem (by rw [bl_len]; exact h)]
  rfl
theorem u8q (c n : UInt8) (m : Int) (hm : m = n.toNat) : ((c.toNat : Int) == m) = (c == n) := by
  subst hm
  by_cases h : c = n
  · subst h; simp
  · rw [beq_eq_false_iff_ne.2 h, beq_eq_false_iff_ne]
    intro e
    exact h (UInt8.toNat_inj.1 (by omega))
theorem test1_at (s : ByteArray) (h : 1 < s.size) : test1 (bl s) = (s[0] == 48 && s[1] != 46) := by
  have h0 := bl_at s 0 (by omega)
  have h1 := bl_at s 1 h
  cases hl : bl s with
  | nil => rw [hl] at h0; cases h0
  | cons c r =>
    cases r with
    | nil => rw [hl] at h1; cases h1
    | cons d m =>
      rw [hl] at h0 h1
      simp at h0 h1
      rw [← h0, ← h1]
      rfl
theorem test1_short (s : ByteArray) (h : ¬ 1 < s.size) : test1 (bl s) = false := by
  have hl := bl_len s
  cases he : bl s with
  | nil => rfl
  | cons c r =>
    cases r with
    | nil => rfl
    | cons d m => rw [he] at hl; simp at hl; omega
theorem t2_any (base gS : Nat) (w0 w : World) (s : ByteArray) (hs : s.size ≤ 140737488351232) (h : NumS base gS w0 w s) : Calls Try.prog 34 #[ptrS gS] w (NTest (test1 (bl s)) base gS w0 s) := by
  have HH := Lib.hid h
  have hc : w.cell? ⟨gS, 0, none⟩ = some (.string s) := (blk_cell h.c 0).trans rfl
  clear h
  by_cases h1 : 1 < s.size
  · have ht := Lib.hid (test1_at s h1)
    have h0 : 0 < s.size := by omega
    have b0 := (s[0]'h0).toNat_lt
    have b1 := (s[1]'h1).toNat_lt
    have e0 := u8q (s[0]'h0) 48 48 rfl
    have e1 := u8q (s[1]'h1) 46 46 rfl
    rw [ht.out]
    unfold bne
    rw [← e0, ← e1]
    clear ht e0 e1
    cases hb : (((s[0]'h0).toNat : Int) == 48) with
    | true =>
      go_enter Try.func34, Try.ntmps34
      repeat (first | go_values | go_skip | go_guarded | go_step | go_upon)
      go_ret
      exact ⟨by simp [bne], HH.out⟩
    | false =>
      go_enter Try.func34, Try.ntmps34
      repeat (first | go_values | go_skip | go_guarded | go_step | go_upon)
      go_ret
      exact ⟨by simp, HH.out⟩
  · have ht := Lib.hid (test1_short s h1)
    have h1' : ¬ (1 : Int) < (s.size : Int) := by omega
    rw [ht.out]
    go_enter Try.func34, Try.ntmps34
    repeat (first | go_values | go_skip | go_guarded | go_step | go_upon)
    go_ret
    exact ⟨rfl, HH.out⟩
theorem NumS.put {base gS : Nat} {w0 w : World} {s : ByteArray} (h : NumS base gS w0 w s) (t : ByteArray) : NumS base gS w0 (w.setCell ⟨gS, 0, none⟩ (.string t)) t := ⟨blk_put h.c 0 _ rfl, h.bel.setCell h.h _, h.h⟩
theorem t3_any (base gS : Nat) (w0 w : World) (s : ByteArray) (h1 : 1 ≤ s.size) (h : NumS base gS w0 w s) : Calls Try.prog 35 #[ptrS gS] w (NStep base gS w0 (s.extract 1 s.size)) := by
  have HH := Lib.hid h
  have hc : w.cell? ⟨gS, 0, none⟩ = some (.string s) := (blk_cell h.c 0).trans rfl
  have hf := blk_frozen h.c 0
  have h1' : (1 : Int) ≤ (s.size : Int) := by omega
  clear h
  go_enter Try.func35, Try.ntmps35
  repeat (first | go_values | go_skip | go_guarded | go_step | go_upon)
  exact bodyPost_end (results_none rfl _ _ _) rfl ⟨rfl, HH.out.put _⟩
theorem t4_any (base gS : Nat) (w0 w : World) (s : ByteArray) (hs : s.size ≤ 140737488351232) (h1 : 1 ≤ s.size) (h : NumS base gS w0 w s) : Calls Try.prog 36 #[ptrS gS] w (NStep base gS w0 (s.extract 0 (s.size - 1))) := by
  have HH := Lib.hid h
  have hc : w.cell? ⟨gS, 0, none⟩ = some (.string s) := (blk_cell h.c 0).trans rfl
  have hf := blk_frozen h.c 0
  have p0 : (0 : Int) ≤ (s.size : Int) - 1 := by omega
  have p1 : (s.size : Int) - 1 ≤ (s.size : Int) := by omega
  have HX : Hid (s.extract 0 ((s.size : Int) - 1).toNat = s.extract 0 (s.size - 1)) := Lib.hid (by congr 1; omega)
  clear h
  go_enter Try.func36, Try.ntmps36
  repeat (first | go_values | go_skip | go_guarded | go_step | go_upon)
  rw [← HX.out]
  exact bodyPost_end (results_none rfl _ _ _) rfl ⟨rfl, HH.out.put _⟩
theorem t5_any (base gS : Nat) (w0 w : World) (s : ByteArray) (hs : s.size ≤ 140737488351232) (h1 : 1 ≤ s.size) (h : NumS base gS w0 w s) : Calls Try.prog 37 #[ptrS gS] w (NTest (test2 (bl s)) base gS w0 s) := by
  have HH := Lib.hid h
  have hc : w.cell? ⟨gS, 0, none⟩ = some (.string s) := (blk_cell h.c 0).trans rfl
  have h1' : (1 : Int) ≤ (s.size : Int) := by omega
  have p0 : (0 : Int) ≤ (s.size : Int) - 1 := by omega
  have p1 : (s.size : Int) - 1 < (s.size : Int) := by omega
  have hlt : s.size - 1 < s.size := by omega
  have hx : ∀ h : ((s.size : Int) - 1).toNat < s.size, (((s[((s.size : Int) - 1).toNat]'h).toNat : Nat) : Int) = ((s[s.size - 1]'hlt).toNat : Int) := by
    intro h
    congr 3
    omega
  have hb := (s[s.size - 1]'hlt).toNat_lt
  have ht : test2 (bl s) = (((s[s.size - 1]'hlt).toNat : Int) == 48) := by
    rw [u8q _ 48 48 rfl]
    unfold test2
    rw [List.getLast?_eq_getElem?, bl_len, bl_at s (s.size - 1) hlt]
    rfl
  rw [ht]
  clear h ht
  go_enter Try.func37, Try.ntmps37
  repeat (first | go_values | go_skip | go_guarded | go_step | go_upon)
  go_ret
  exact ⟨by simp, HH.out⟩
end
section
open Go Go.RowKit Go.Proofs.YtgfppniifjabdaaW.PrintWords

def szS (g : Nat) (w : World) : Nat := match w.cell? ⟨g, 0, none⟩ with | some (.string s) => s.size | _ => 0
theorem NumS.sz {base gS : Nat} {w0 w : World} {s : ByteArray} (h : NumS base gS w0 w s) : szS gS w = s.size := by
  have hc : w.cell? ⟨gS, 0, none⟩ = some (.string s) := (blk_cell h.c 0).trans rfl
  unfold szS
  rw [hc]
def CutP (base gS : Nat) (w0 : World) (R : ByteArray → Prop) (test : List UInt8 → Bool) (e : Ending) (w' : World) : Prop := e = .returned (.tuple #[]) ∧ ∃ s, NumS base gS w0 w' s ∧ R s ∧ test (bl s) = false
set_option maxHeartbeats 1000000 in
theorem cut_any (base gS : Nat) (w0 : World) (F G : Nat) (R : ByteArray → Prop) (test : List UInt8 → Bool) (step : ByteArray → ByteArray)
    (hT : ∀ (w : World) (s : ByteArray), NumS base gS w0 w s → R s → Calls Try.prog F #[ptrS gS] w (NTest (test (bl s)) base gS w0 s))
    (hS : ∀ (w : World) (s : ByteArray), NumS base gS w0 w s → R s → test (bl s) = true → Calls Try.prog G #[ptrS gS] w (NStep base gS w0 (step s)))
    (hI : ∀ s, R s → test (bl s) = true → R (step s) ∧ (step s).size < s.size)
    (hEF : ∀ w : World, Sem.run Try.prog (callFunc F #[ptrS gS]) w = .ok (.enter F #[ptrS gS]) w) (hEG : ∀ w : World, Sem.run Try.prog (callFunc G #[ptrS gS]) w = .ok (.enter G #[ptrS gS]) w)
    (w : World) (s : ByteArray) (h : NumS base gS w0 w s) (hR : R s) :
    Calls Try.prog 33 #[.func (.func F) #[] #[ptrS gS], .func (.func G) #[] #[ptrS gS]] w (CutP base gS w0 R test) := by
  have HT := Lib.hid hT
  have HS := Lib.hid hS
  have HI := Lib.hid hI
  have HEF := Lib.hid hEF
  have HEG := Lib.hid hEG
  have HH := Lib.hid h
  have HR := Lib.hid hR
  clear hT hS hI hEF hEG h hR
  go_enter Try.func33, Try.ntmps33
  repeat (first | go_values | go_skip | go_guarded | go_step | go_upon)
  go_loopw [4] (fun _ wr => ∃ s : ByteArray, Hid (NumS base gS w0 wr s) ∧ Hid (R s)) (fun _ wr => szS gS wr)
  case atStart => exact ⟨s, HH, HR⟩
  case round =>
    clear HH HR
    obtain ⟨s, HH, HR⟩ := hrel
    cases ht : test (bl s) with
    | true =>
      have HTT := Lib.hid ht
      have HC := Lib.hid (HT.out wr s HH.out HR.out)
      rw [ht] at HC
      clear ht
      repeat (first | (simp only [HEF.out]; refine HC.out.mono ?_; rintro e w1 ⟨rfl, h1⟩; have HH1 := Lib.hid h1; clear h1; dsimp only) | (simp only [HEG.out]; refine (HS.out _ s HH1.out HR.out HTT.out).mono ?_; rintro e w2 ⟨rfl, h2⟩; have HH2 := Lib.hid h2; clear h2; dsimp only) | go_values | go_skip | go_guarded | go_step | go_upon)
      go_roundw
      case rel => exact ⟨_, _, _, _, ⟨step s, HH2, Lib.hid (HI.out s HR.out HTT.out).1⟩, rfl⟩
      case measure =>
        rw [HH2.out.sz, HH.out.sz]
        exact (HI.out s HR.out HTT.out).2
    | false =>
      have HTT := Lib.hid ht
      have HC := Lib.hid (HT.out wr s HH.out HR.out)
      rw [ht] at HC
      clear ht
      repeat (first | (simp only [HEF.out]; refine HC.out.mono ?_; rintro e w1 ⟨rfl, h1⟩; have HH1 := Lib.hid h1; clear h1; dsimp only) | go_values | go_skip | go_guarded | go_step | go_upon)
      exact bodyPost_end (results_none rfl _ _ _) rfl ⟨rfl, s, HH1.out, HR.out, HTT.out⟩
end
end Go.Proofs.Ytgfppniifjabdaa
