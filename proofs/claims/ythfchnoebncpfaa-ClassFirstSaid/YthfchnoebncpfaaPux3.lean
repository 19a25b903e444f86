-- Written by a program of this session's (wip/ext/run.py) over the kit's print, with contracts of its own.
import Derived.Test.YthfchnoebncpfaaPux0
import Derived.Test.YthfchnoebncpfaaPux1
import Derived.Test.YthfchnoebncpfaaPux2
namespace Go.Proofs.Ythfchnoebncpfaa.Pu
open Go Go.Maps Go.Proofs.Ythfchnoebncpfaa Go.RowKit Go.Proofs.YthfchnoebncpfaaW.PrintWords Go.Proofs.YthfchnoebncpfaaW.PrintLast Go.Proofs.YthfchnoebncpfaaW.PrintMore
attribute [local go_sem] max2_int min2_int max_two min_two max_three min_three max_four min_four   -- for this text's walks alone
set_option linter.unusedVariables false
set_option linter.unusedSimpArgs false


theorem wrap_in {i : Int} (h : -9223372036854775808 ≤ i) (h2 : i ≤ 9223372036854775807) : wrap64 i = i := by unfold wrap64; omega
/-- Is a text one of some? -/
def inF (s : ByteArray) (l : List ByteArray) : Bool := l.any (fun x => x.toList == s.toList)
theorem rdOf_at (l : List ByteArray) (i : Nat) (h : i < l.length) : rdOf ByteArray.empty l (i : Int) = l[i] := by
  unfold rdOf
  rw [Int.toNat_natCast, List.getD_eq_getElem?_getD, List.getElem?_eq_getElem h]
  rfl
theorem in_l (s : ByteArray) (l : List ByteArray) (hl : l.length ≤ 9223372036854775806) : ∀ (d k i : Nat), i + d = l.length → d < k → class_in.l0 k s l l.length i = some (inF s (l.drop i)) := by
  intro d
  induction d with
  | zero =>
    intro k i hi hk
    obtain ⟨k, rfl⟩ : ∃ m, k = m + 1 := ⟨k - 1, by omega⟩
    simp only [class_in.l0]
    rw [if_neg (by omega), List.drop_of_length_le (by omega)]
    rfl
  | succ d ih =>
    intro k i hi hk
    obtain ⟨k, rfl⟩ : ∃ m, k = m + 1 := ⟨k - 1, by omega⟩
    have hlt : i < l.length := by omega
    simp only [class_in.l0]
    rw [if_pos (by omega), if_pos (by omega), if_pos (by omega), rdOf_at l i hlt, List.drop_eq_getElem_cons hlt]
    by_cases hc : l[i].toList = s.toList
    · have hb : (l[i].toList == s.toList) = true := by rw [beq_iff_eq]; exact hc
      rw [if_pos hc]
      unfold inF
      rw [List.any_cons, hb]
      rfl
    · rw [if_neg hc, wrap_in (by omega) (by omega)]
      have hb : (l[i].toList == s.toList) = false := by rw [beq_eq_false_iff_ne]; exact hc
      have := ih k (i + 1) (by omega) (by omega)
      rw [show ((i : Int) + 1) = ((i + 1 : Nat) : Int) by omega, this]
      unfold inF
      rw [List.any_cons, hb]
      rfl
theorem in_f (s : ByteArray) (l : List ByteArray) (k : Nat) (hk : l.length < k) (hl : l.length ≤ 9223372036854775806) : class_in.f k s l = some (inF s l) := by
  unfold class_in.f
  exact in_l s l hl l.length k 0 (by omega) hk
def chgL : List ByteArray := [⟨#[110, 111, 119]⟩, ⟨#[114, 97, 110, 100, 111, 109]⟩, ⟨#[110, 101, 120, 116, 118, 97, 108]⟩, ⟨#[99, 117, 114, 114, 118, 97, 108]⟩, ⟨#[115, 101, 116, 118, 97, 108]⟩, ⟨#[108, 97, 115, 116, 118, 97, 108]⟩, ⟨#[99, 108, 111, 99, 107, 95, 116, 105, 109, 101, 115, 116, 97, 109, 112]⟩, ⟨#[116, 120, 105, 100, 95, 99, 117, 114, 114, 101, 110, 116]⟩]
def pgF (s : ByteArray) : Bool := decide (3 ≤ s.size) && ((s.extract 0 3).toList == [112, 103, 95])
def chgF (s : ByteArray) : Bool := pgF s || inF s chgL
theorem changing_f (s : ByteArray) (k : Nat) (hk : 9 ≤ k) : class_changing.f k s = some (chgF s) := by
  have hin := in_f s chgL k (by show 8 < k; omega) (by decide)
  unfold class_changing.f chgF pgF
  unfold chgL at *
  by_cases h3 : (s.size : Int) ≥ 3
  · rw [if_pos h3, if_pos (by decide), if_pos (by omega), decide_eq_true (by omega)]
    by_cases hp : (s.extract 0 (3 : Int).toNat).toList = [112, 103, 95]
    · have hp' : (s.extract 0 3).toList = [112, 103, 95] := hp
      rw [if_pos hp', hp']
      rfl
    · have hp' : ¬ (s.extract 0 3).toList = [112, 103, 95] := hp
      have hb : ((s.extract 0 3).toList == [112, 103, 95]) = false := by rw [beq_eq_false_iff_ne]; exact hp'
      rw [if_neg hp', hin, hb]
      rfl
  · rw [if_neg h3, hin, decide_eq_false (by omega)]
    rfl
structure Tok where
  kind : Int
  text : ByteArray
  at_ : Int
def tokOf (x : S33) : Tok := ⟨x.f0, x.f1, x.f2⟩
/-- A function is called at a place: its name, a parenthesis. -/
def callB (so : ByteArray → Bool) (p q : Tok) : Bool := (q.kind == 5) && (q.text.toList == [40]) && (p.kind == 1) && so p.text
def callsF (so : ByteArray → Bool) : List Tok → Bool
  | p :: q :: r => callB so p q || callsF so (q :: r)
  | _ => false
theorem calls_drop (so : ByteArray → Bool) (l : List Tok) (i : Nat) (p q : Tok) (hp : l[i]? = some p) (hq : l[i + 1]? = some q) : callsF so (l.drop i) = (callB so p q || callsF so (l.drop (i + 1))) := by
  obtain ⟨h1, rfl⟩ := List.getElem?_eq_some_iff.1 hp
  obtain ⟨h2, rfl⟩ := List.getElem?_eq_some_iff.1 hq
  rw [List.drop_eq_getElem_cons h1, List.drop_eq_getElem_cons h2]
  rfl
theorem calls_end (so : ByteArray → Bool) (l : List Tok) (i : Nat) (h : l.length ≤ i + 1) : callsF so (l.drop i) = false := by
  have : (l.drop i).length ≤ 1 := by rw [List.length_drop]; omega
  match hl : l.drop i, this with
  | [], _ => rfl
  | [_], _ => rfl
/-- The row of tokens that a walk reads. -/
def RdT (w : World) (A : Option Addr) (l : List Tok) : Prop := ∀ (k : Nat) (o : Tok), l[k]? = some o → ∃ ad, A = some ad ∧ w.cell? (ad.add (k * 3)) = some (.int .i64 o.kind) ∧ w.cell? ⟨(ad.add (k * 3)).block, (ad.add (k * 3)).off + 1, none⟩ = some (.string o.text)
theorem RdT.kept {w w' : World} {A : Option Addr} {l : List Tok} (h : RdT w A l) (t : Touch [] w w') : RdT w' A l := fun k o ho => by
  obtain ⟨ad, e, h1, h2⟩ := h k o ho
  exact ⟨ad, e, t.cell h1 (by simp), t.cell h2 (by simp)⟩

theorem tok_at {w : World} {A : Option Addr} {l : List S33} (h : Kd.C k33 w A l.length l) (k : Nat) (hk : k < l.length) : ∃ ad o, A = some ad ∧ (l.map tokOf)[k]? = some o ∧ w.cell? (ad.add (k * 3)) = some (.int .i64 o.kind) ∧ w.cell? ⟨(ad.add (k * 3)).block, (ad.add (k * 3)).off + 1, none⟩ = some (.string o.text) := by
  obtain ⟨ad, e, h0, h1, _⟩ := at_T33 h (k : Int) (by omega) (by omega)
  refine ⟨ad, tokOf (rd_T33 l k), e, ?_, h0, h1⟩
  rw [List.getElem?_map, List.getElem?_eq_getElem hk]
  show some (tokOf l[k]) = some (tokOf (rd_T33 l k))
  unfold rd_T33
  rw [Int.toNat_natCast, List.getD_eq_getElem?_getD, List.getElem?_eq_getElem hk]
  rfl
theorem cell_b {w wr : World} {a : Addr} {v : Value} (hb : Below w.heap.size w wr) (h : w.cell? a = some v) : wr.cell? a = some v := (hb.cell (World.block_lt_of_cell? w _ h)).trans h
set_option maxRecDepth 100000 in
set_option maxHeartbeats 2000000 in
theorem calls_chg (A : Option Addr) (c : Nat) (l : List S33) (w : World) (hr : Kd.C k33 w A l.length l) (hl : l.length ≤ 140737488351232) : Calls Try.prog 30 #[.slice A l.length c, .func (.func 34) #[] #[]] w fun e w' => e = .returned (.bool (callsF (chgF) (l.map tokOf))) ∧ Below w.heap.size w w' := by
  have hu33 := Try.underlying33
  have HR := Lib.hid hr
  have HLL := Lib.hid hl
  clear hr
  have HC : Hid (∀ (s : ByteArray) (wr : World), Calls Try.prog 34 #[.string s] wr fun e w' => e = .returned (.bool (chgF s)) ∧ Below wr.heap.size wr w') := Lib.hid fun s wr => class_changing.calls 9 s _ wr (changing_f s 9 (Nat.le_refl _))
  go_enter Try.func30, Try.ntmps30
  go_wp2
  go_loopw [5] (fun i wr => ∃ k : Nat, i = .int .i64 ((k + 1 : Nat) : Int) ∧ k ≤ l.length ∧ Hid (callsF (chgF) ((l.map tokOf).drop k) = callsF (chgF) (l.map tokOf)) ∧ Hid (Below w.heap.size w wr)) (fun i _ => l.length + 1 - (intOf i).toNat)
  case atStart => exact ⟨0, rfl, Nat.zero_le _, Lib.hid rfl, Lib.hid (Below.refl _ _)⟩
  case round =>
    obtain ⟨k, rfl, hk, H, HB⟩ := hrel
    by_cases hlt : k + 1 < l.length
    · obtain ⟨ad, p, e, hp, p0, p1⟩ := tok_at HR.out k (by omega)
      obtain ⟨ad2, q, e2, hq, q0, q1⟩ := tok_at HR.out (k + 1) hlt
      subst e
      cases e2
      have hs := calls_drop (chgF) (l.map tokOf) k p q hp hq
      have HD := Lib.hid hs
      clear hs hp hq
      have p0 := cell_b HB.out p0
      have p1 := cell_b HB.out p1
      have q0 := cell_b HB.out q0
      have q1 := cell_b HB.out q1
      have h0 : (0 : Int) ≤ (k : Int) := by omega
      have h1 : ((k + 1 : Nat) : Int) < l.length := by omega
      have h2 : (k : Int) < l.length := by omega
      have HSTEP : Hid (callB (chgF) p q = false → callsF (chgF) ((l.map tokOf).drop (k + 1)) = callsF (chgF) (l.map tokOf)) := Lib.hid (fun hf => by rw [← H.out, HD.out, hf, Bool.false_or])
      have HEND : Hid (callB (chgF) p q = true → callsF (chgF) (l.map tokOf) = true) := Lib.hid (fun hf => by rw [← H.out, HD.out, hf, Bool.true_or])
      have HLT := Lib.hid hlt
      have hu9 : ((k + 1 : Nat) : Int) ≤ 140737488351232 := by have := HLL.out; omega
      clear hlt hu9
      by_cases k5 : q.kind = 5
      · cases kt : (q.text.toList == [40]) with
        | false =>
          have hf : Hid (callB (chgF) p q = false) := Lib.hid (by unfold callB; rw [kt, Bool.and_false]; rfl)
          go_wp2_with fail
          go_roundw
          case rel => exact ⟨k + 1, by go_num, by have := HLT.out; omega, Lib.hid (HSTEP.out hf.out), HB⟩
          case measure => have := HLT.out; simp [intOf]; omega
        | true =>
          by_cases k1 : p.kind = 1
          · have HX : Hid (callB (chgF) p q = (chgF) p.text) := Lib.hid (by unfold callB; rw [kt, k5, k1]; rfl)
            cases hso : (chgF) p.text with
            | true =>
              go_wp2_with (go_at_call 34; refine (HC.out p.text wr).mono ?_; rintro e w1 ⟨rfl, b1⟩; rw [hso])
              go_ret
              exact ⟨by rw [HEND.out (HX.out.trans hso)]; rfl, HB.out.trans (b1.mono HB.out.size)⟩
            | false =>
              go_wp2_with (go_at_call 34; refine (HC.out p.text wr).mono ?_; rintro e w1 ⟨rfl, b1⟩; rw [hso])
              go_roundw
              case rel => exact ⟨k + 1, by go_num, by have := HLT.out; omega, Lib.hid (HSTEP.out (HX.out.trans hso)), Lib.hid (HB.out.trans (b1.mono HB.out.size))⟩
              case measure => have := HLT.out; simp [intOf]; omega
          · have hf : Hid (callB (chgF) p q = false) := Lib.hid (by unfold callB; rw [beq_eq_false_iff_ne.2 k1, Bool.and_false]; rfl)
            go_wp2_with fail
            go_roundw
            case rel => exact ⟨k + 1, by go_num, by have := HLT.out; omega, Lib.hid (HSTEP.out hf.out), HB⟩
            case measure => have := HLT.out; simp [intOf]; omega
      · have hf : Hid (callB (chgF) p q = false) := Lib.hid (by unfold callB; rw [beq_eq_false_iff_ne.2 k5]; rfl)
        go_wp2_with fail
        go_roundw
        case rel => exact ⟨k + 1, by go_num, by have := HLT.out; omega, Lib.hid (HSTEP.out hf.out), HB⟩
        case measure => have := HLT.out; simp [intOf]; omega
    · have HF : Hid (callsF (chgF) (l.map tokOf) = false) := Lib.hid (by rw [← H.out]; exact calls_end _ _ _ (by rw [List.length_map]; omega))
      have hge : ¬ ((k + 1 : Nat) : Int) < l.length := by omega
      go_wp2_with fail
      go_ret
      exact ⟨by rw [HF.out]; rfl, HB.out⟩

theorem lit_any (s : ByteArray) (B : Nat) (A2 : Option Addr) (c2 : Nat) (l2 : List ByteArray) (w : World) (hB : w.cell? ⟨B, 0, none⟩ = some (.slice A2 l2.length c2)) (hr2 : Kd.C Kd.string w A2 l2.length l2) (hc2 : l2.length ≤ c2) (hl2 : l2.length ≤ 140737488351232) : Calls Try.prog 31 #[.string s, .pointer (some ⟨B, 0, none⟩)] w fun e w' => e = .returned (.bool (inF s l2)) ∧ Below w.heap.size w w' := by
  have HC := Lib.hid (class_in.calls (l2.length + 1) s A2 c2 l2 _ w hr2 hc2 (in_f s l2 (l2.length + 1) (by omega) (by omega)))
  clear hr2 hc2 hl2
  go_enter Try.func31, Try.ntmps31
  go_wp2_with (go_at_call 23; refine HC.out.mono ?_; rintro e w1 ⟨rfl, b1⟩)
  go_ret
  exact ⟨rfl, b1.below⟩
set_option maxRecDepth 100000 in
set_option maxHeartbeats 2000000 in
theorem calls_lit (B : Nat) (A2 : Option Addr) (c2 : Nat) (l2 : List ByteArray) (A : Option Addr) (c : Nat) (l : List S33) (w : World) (hr : Kd.C k33 w A l.length l) (hl : l.length ≤ 140737488351232)  (hB : w.cell? ⟨B, 0, none⟩ = some (.slice A2 l2.length c2)) (hr2 : Kd.C Kd.string w A2 l2.length l2) (hc2 : l2.length ≤ c2) (hl2 : l2.length ≤ 140737488351232): Calls Try.prog 30 #[.slice A l.length c, .func (.func 31) #[] #[.pointer (some ⟨B, 0, none⟩)]] w fun e w' => e = .returned (.bool (callsF (fun s => inF s l2) (l.map tokOf))) ∧ Below w.heap.size w w' := by
  have hu33 := Try.underlying33
  have HR := Lib.hid hr
  have HLL := Lib.hid hl
  clear hr
  have HC : Hid (∀ (s : ByteArray) (wr : World), Below w.heap.size w wr → Calls Try.prog 31 #[.string s, .pointer (some ⟨B, 0, none⟩)] wr fun e w' => e = .returned (.bool (inF s l2)) ∧ Below wr.heap.size wr w') := Lib.hid fun s wr hb => lit_any s B A2 c2 l2 wr (cell_b hb hB) (Kd.C_below hr2 hb) hc2 hl2
  clear hB hr2 hc2 hl2
  go_enter Try.func30, Try.ntmps30
  go_wp2
  go_loopw [5] (fun i wr => ∃ k : Nat, i = .int .i64 ((k + 1 : Nat) : Int) ∧ k ≤ l.length ∧ Hid (callsF (fun s => inF s l2) ((l.map tokOf).drop k) = callsF (fun s => inF s l2) (l.map tokOf)) ∧ Hid (Below w.heap.size w wr)) (fun i _ => l.length + 1 - (intOf i).toNat)
  case atStart => exact ⟨0, rfl, Nat.zero_le _, Lib.hid rfl, Lib.hid (Below.refl _ _)⟩
  case round =>
    obtain ⟨k, rfl, hk, H, HB⟩ := hrel
    by_cases hlt : k + 1 < l.length
    · obtain ⟨ad, p, e, hp, p0, p1⟩ := tok_at HR.out k (by omega)
      obtain ⟨ad2, q, e2, hq, q0, q1⟩ := tok_at HR.out (k + 1) hlt
      subst e
      cases e2
      have hs := calls_drop (fun s => inF s l2) (l.map tokOf) k p q hp hq
      have HD := Lib.hid hs
      clear hs hp hq
      have p0 := cell_b HB.out p0
      have p1 := cell_b HB.out p1
      have q0 := cell_b HB.out q0
      have q1 := cell_b HB.out q1
      have h0 : (0 : Int) ≤ (k : Int) := by omega
      have h1 : ((k + 1 : Nat) : Int) < l.length := by omega
      have h2 : (k : Int) < l.length := by omega
      have HSTEP : Hid (callB (fun s => inF s l2) p q = false → callsF (fun s => inF s l2) ((l.map tokOf).drop (k + 1)) = callsF (fun s => inF s l2) (l.map tokOf)) := Lib.hid (fun hf => by rw [← H.out, HD.out, hf, Bool.false_or])
      have HEND : Hid (callB (fun s => inF s l2) p q = true → callsF (fun s => inF s l2) (l.map tokOf) = true) := Lib.hid (fun hf => by rw [← H.out, HD.out, hf, Bool.true_or])
      have HLT := Lib.hid hlt
      have hu9 : ((k + 1 : Nat) : Int) ≤ 140737488351232 := by have := HLL.out; omega
      clear hlt hu9
      by_cases k5 : q.kind = 5
      · cases kt : (q.text.toList == [40]) with
        | false =>
          have hf : Hid (callB (fun s => inF s l2) p q = false) := Lib.hid (by unfold callB; rw [kt, Bool.and_false]; rfl)
          go_wp2_with fail
          go_roundw
          case rel => exact ⟨k + 1, by go_num, by have := HLT.out; omega, Lib.hid (HSTEP.out hf.out), HB⟩
          case measure => have := HLT.out; simp [intOf]; omega
        | true =>
          by_cases k1 : p.kind = 1
          · have HX : Hid (callB (fun s => inF s l2) p q = (fun s => inF s l2) p.text) := Lib.hid (by unfold callB; rw [kt, k5, k1]; rfl)
            cases hso : (fun s => inF s l2) p.text with
            | true =>
              go_wp2_with (go_at_call 31; refine (HC.out p.text wr HB.out).mono ?_; rintro e w1 ⟨rfl, b1⟩; rw [hso])
              go_ret
              exact ⟨by rw [HEND.out (HX.out.trans hso)]; rfl, HB.out.trans (b1.mono HB.out.size)⟩
            | false =>
              go_wp2_with (go_at_call 31; refine (HC.out p.text wr HB.out).mono ?_; rintro e w1 ⟨rfl, b1⟩; rw [hso])
              go_roundw
              case rel => exact ⟨k + 1, by go_num, by have := HLT.out; omega, Lib.hid (HSTEP.out (HX.out.trans hso)), Lib.hid (HB.out.trans (b1.mono HB.out.size))⟩
              case measure => have := HLT.out; simp [intOf]; omega
          · have hf : Hid (callB (fun s => inF s l2) p q = false) := Lib.hid (by unfold callB; rw [beq_eq_false_iff_ne.2 k1, Bool.and_false]; rfl)
            go_wp2_with fail
            go_roundw
            case rel => exact ⟨k + 1, by go_num, by have := HLT.out; omega, Lib.hid (HSTEP.out hf.out), HB⟩
            case measure => have := HLT.out; simp [intOf]; omega
      · have hf : Hid (callB (fun s => inF s l2) p q = false) := Lib.hid (by unfold callB; rw [beq_eq_false_iff_ne.2 k5]; rfl)
        go_wp2_with fail
        go_roundw
        case rel => exact ⟨k + 1, by go_num, by have := HLT.out; omega, Lib.hid (HSTEP.out hf.out), HB⟩
        case measure => have := HLT.out; simp [intOf]; omega
    · have HF : Hid (callsF (fun s => inF s l2) (l.map tokOf) = false) := Lib.hid (by rw [← H.out]; exact calls_end _ _ _ (by rw [List.length_map]; omega))
      have hge : ¬ ((k + 1 : Nat) : Int) < l.length := by omega
      go_wp2_with fail
      go_ret
      exact ⟨by rw [HF.out]; rfl, HB.out⟩
set_option maxHeartbeats 1000000 in
theorem Calls_any (A : Option Addr) (c : Nat) (l : List S33) (A2 : Option Addr) (c2 : Nat) (l2 : List ByteArray) (w : World) (hr : Kd.C k33 w A l.length l) (hl : l.length ≤ 140737488351232) (hr2 : Kd.C Kd.string w A2 l2.length l2) (hc2 : l2.length ≤ c2) (hl2 : l2.length ≤ 140737488351232) : Calls Try.prog 15 #[.slice A l.length c, .slice A2 l2.length c2] w fun e w' => e = .returned (.bool (callsF (fun s => inF s l2) (l.map tokOf))) ∧ Below w.heap.size w w' := by
  have hmf : ∀ (fn : Fn) (first cap : Array Value) (w : World), (Instr.makeFunc fn first cap).run Try.prog w = .ok (.func fn first cap) w := fun _ _ _ _ => rfl
  have hb : Below w.heap.size w (w.alloc (.cells #[.slice A2 l2.length c2] 28)) := (Below.refl _ _).alloc (Nat.le_refl _) _
  have HB := Lib.hid hb
  have HC := Lib.hid (calls_lit w.heap.size A2 c2 l2 A c l (w.alloc (.cells #[.slice A2 l2.length c2] 28)) (Kd.C_below hr hb) hl (by rw [World.cell?_alloc_at _ _ _ _ rfl]; rfl) (Kd.C_below hr2 hb) hc2 hl2)
  clear hr hl hr2 hc2 hl2 hb
  go_enter Try.func15, Try.ntmps15
  go_wp2_with (go_at_call 30; refine HC.out.mono ?_; rintro e w1 ⟨rfl, b1⟩)
  go_ret
  exact ⟨rfl, HB.out.trans (b1.mono HB.out.size)⟩
def qcF (k : Nat) (l : List S33) : Option Int := (class_writes.f k l).bind fun x => if x then some 2 else (class_Locks.f k l).bind fun y => if y || callsF chgF (l.map tokOf) then some 7 else some 1
set_option maxHeartbeats 1000000 in
theorem query_any (k : Nat) (A : Option Addr) (c : Nat) (l : List S33) (r : Int) (w : World) (hr : Kd.C k33 w A l.length l) (hc : l.length ≤ c) (hl : l.length ≤ 140737488351232) (h : qcF k l = some r) : Calls Try.prog 22 #[.slice A l.length c] w fun e w' => e = .returned (.int .i64 r) ∧ Below w.heap.size w w' := by
  unfold qcF at h
  obtain ⟨x, hx, h⟩ := Option.bind_eq_some_iff.1 h
  have HW := Lib.hid (class_writes.calls k A c l x w hr hc hx)
  have HCC : Hid (∀ w1, Below w.heap.size w w1 → Calls Try.prog 30 #[.slice A l.length c, .func (.func 34) #[] #[]] w1 fun e w' => e = .returned (.bool (callsF chgF (l.map tokOf))) ∧ Below w1.heap.size w1 w') := Lib.hid fun w1 hb => calls_chg A c l w1 (Kd.C_below hr hb) hl
  cases x with
  | true =>
    obtain rfl := Option.some.inj h
    clear hx hr hc hl
    go_enter Try.func22, Try.ntmps22
    go_wp2_with (go_at_call 33; refine HW.out.mono ?_; rintro e w1 ⟨rfl, b1⟩)
    go_ret
    exact ⟨rfl, b1⟩
  | false =>
    replace h : ((class_Locks.f k l).bind fun y => if y || callsF chgF (l.map tokOf) then some (7 : Int) else some 1) = some r := h
    obtain ⟨y, hy, h⟩ := Option.bind_eq_some_iff.1 h
    have HL : Hid (∀ w1, Below w.heap.size w w1 → Calls Try.prog 17 #[.slice A l.length c] w1 fun e w' => e = .returned (.bool y) ∧ Below w1.heap.size w1 w') := Lib.hid fun w1 hb => class_Locks.calls k A c l y w1 (Kd.C_below hr hb) hc hy
    clear hx hy hr hc hl
    cases y with
    | true =>
      replace h : some (7 : Int) = some r := h
      obtain rfl := Option.some.inj h
      go_enter Try.func22, Try.ntmps22
      go_wp2_with (first | (go_at_call 33; refine HW.out.mono ?_; rintro e w1 ⟨rfl, b1⟩) | (go_at_call 17; refine (HL.out _ b1).mono ?_; rintro e w2 ⟨rfl, b2⟩; replace b2 := b1.trans (b2.mono b1.size)))
      go_ret
      exact ⟨rfl, b2⟩
    | false =>
      cases hz : callsF chgF (l.map tokOf) with
      | true =>
        rw [hz] at h HCC
        replace h : some (7 : Int) = some r := h
        obtain rfl := Option.some.inj h
        go_enter Try.func22, Try.ntmps22
        go_wp2_with (first | (go_at_call 33; refine HW.out.mono ?_; rintro e w1 ⟨rfl, b1⟩) | (go_at_call 17; refine (HL.out _ b1).mono ?_; rintro e w2 ⟨rfl, b2⟩; replace b2 := b1.trans (b2.mono b1.size)) | (go_at_call 30; refine (HCC.out _ b2).mono ?_; rintro e w3 ⟨rfl, b3⟩; replace b3 := b2.trans (b3.mono b2.size)))
        go_ret
        exact ⟨rfl, b3⟩
      | false =>
        rw [hz] at h HCC
        replace h : some (1 : Int) = some r := h
        obtain rfl := Option.some.inj h
        go_enter Try.func22, Try.ntmps22
        go_wp2_with (first | (go_at_call 33; refine HW.out.mono ?_; rintro e w1 ⟨rfl, b1⟩) | (go_at_call 17; refine (HL.out _ b1).mono ?_; rintro e w2 ⟨rfl, b2⟩; replace b2 := b1.trans (b2.mono b1.size)) | (go_at_call 30; refine (HCC.out _ b2).mono ?_; rintro e w3 ⟨rfl, b3⟩; replace b3 := b2.trans (b3.mono b2.size)))
        go_ret
        exact ⟨rfl, b3⟩

def strV (s : ByteArray) : Value := .string s
def goodS (s : ByteArray) : Prop := s.size ≤ maxLen
theorem encS : KeyEnc Try.prog 9 strV goodS := ⟨string_keyed Try.underlying9, fun h => by simpa [strV] using h, fun {x} hx => ⟨_, WideMaps.keyOf_string_mk Try.underlying9 hx⟩⟩
theorem zeroI (w : World) : (zeroValue 3).run Try.prog w = .ok (.int .i64 0) w := by
  have hu := Try.underlying3
  go_simp
section
variable {P : Program} {k : TypeId} {enc : ByteArray → Value} {good : ByteArray → Prop} (w : World) {b : Nat} {l : List (ByteArray × Value)}
variable {ops : Array Oper} {rest : List Oper} {o : Oper} {a : Act} {Q : Exit → Act → World → Prop}
theorem wpList_mt_insert (hgd : o.guard = none) (m x v : Operand) (t e : TypeId) (hop : o.op = Op.insert t m x v) (KE : KeyEnc P k enc good) (ht : P.underlying t = some (.map k e)) (hM : MapT w b enc good l) (hn : l.length < maxLen) {xk : ByteArray} (hx : good xk)
    (hm : a.eval m = .map (some b)) (hxe : a.eval x = enc xk) (y : Value) (hv : a.eval v = y)
    (hK : ∀ w', MapT w' b enc good (mput l xk y) → Touch [b] w w' → wpList P ops Q rest (a.put o.dst undef) w') : wpList P ops Q (o :: rest) a w := by
  refine wpList_plain hgd fun K' hK' => ?_
  obtain ⟨es', clock', hrun, r1, r2, r3, r4⟩ := hM.store KE ht hn hx y
  unfold Oper.wp
  simp [execOp, hop, hm, hxe, hv, hrun, Result.andThen]
  exact hK' _ _ (hK _ ⟨es', clock', heap_setBlock_eq _ hM.lt, r1, r2, r3, r4⟩ ((Touch.refl _ _).setBlock b _ (by simp)))
end
def fstW : List ByteArray := [⟨#[105, 110, 115, 101, 114, 116]⟩, ⟨#[117, 112, 100, 97, 116, 101]⟩, ⟨#[100, 101, 108, 101, 116, 101]⟩, ⟨#[116, 114, 117, 110, 99, 97, 116, 101]⟩, ⟨#[109, 101, 114, 103, 101]⟩]
def fstS : List ByteArray := [⟨#[115, 101, 116]⟩, ⟨#[114, 101, 115, 101, 116]⟩, ⟨#[100, 105, 115, 99, 97, 114, 100]⟩, ⟨#[108, 105, 115, 116, 101, 110]⟩, ⟨#[117, 110, 108, 105, 115, 116, 101, 110]⟩, ⟨#[112, 114, 101, 112, 97, 114, 101]⟩, ⟨#[100, 101, 97, 108, 108, 111, 99, 97, 116, 101]⟩, ⟨#[100, 101, 99, 108, 97, 114, 101]⟩, ⟨#[108, 111, 97, 100]⟩]
def fst0 : List (ByteArray × Value) := [(⟨#[98, 101, 103, 105, 110]⟩, .int .i64 3), (⟨#[99, 111, 109, 109, 105, 116]⟩, .int .i64 4), (⟨#[101, 110, 100]⟩, .int .i64 4)]
def putAll (v : Int) (l : List (ByteArray × Value)) (ks : List ByteArray) : List (ByteArray × Value) := ks.foldl (fun m s => mput m s (.int .i64 v)) l
theorem putAll_step (v : Int) (l : List (ByteArray × Value)) (ks : List ByteArray) (i : Nat) (hi : i < ks.length) : putAll v l (ks.take (i + 1)) = mput (putAll v l (ks.take i)) ks[i] (.int .i64 v) := by
  unfold putAll
  rw [List.take_succ_eq_append_getElem hi, List.foldl_append]
  rfl
theorem putAll_len (v : Int) (ks : List ByteArray) : ∀ l, (putAll v l ks).length ≤ l.length + ks.length := by
  induction ks with
  | nil => intro l; exact Nat.le_refl _
  | cons x r ih =>
    intro l
    have h1 := ih (mput l x (.int .i64 v))
    have h2 := mput_length l x (.int .i64 v)
    have e : putAll v l (x :: r) = putAll v (mput l x (.int .i64 v)) r := rfl
    rw [e, List.length_cons]
    omega
def fstF : List (ByteArray × Value) := putAll 6 (putAll 2 fst0 fstW) fstS
theorem good_of (l : List ByteArray) (h : l.all (fun s => decide (s.size ≤ 100)) = true) (i : Nat) (hi : i < l.length) : goodS l[i] := by
  rw [List.all_eq_true] at h
  have := h l[i] (List.getElem_mem hi)
  have := of_decide_eq_true this
  unfold goodS maxLen
  omega
theorem rowW {w : World} {g : Nat} {l : List ByteArray} {t : TypeId} (hb : w.heap[g]? = some (.cells (l.map Value.string).toArray t (0, 0))) (i : Nat) (hi : i < l.length) : w.cell? ⟨g, i, none⟩ = some (.string l[i]) := by
  rw [cell_of hb]
  simp [hi]
theorem touch_blockOf {b g : Nat} {w w' : World} {o : Obj} (h : Touch [b] w w') (hb : w.heap[g]? = some o) (hne : g ≠ b) : w'.heap[g]? = some o := by
  rw [← hb]
  exact h.block g (heap_lt hb) (by simpa using hne)
set_option maxHeartbeats 2000000 in
theorem firsts_any (w : World) : Calls Try.prog 24 #[] w fun e w' => ∃ b, e = .returned (.map (some b)) ∧ MapT w' b strV goodS fstF ∧ Touch [] w w' := by
  obtain ⟨b, hb0⟩ : ∃ b, b = w.heap.size := ⟨_, rfl⟩
  have hM0 : MapT (w.alloc (.map #[] 0)) b strV goodS [] := by rw [hb0]; exact MapT.made w
  have hT0 : Touch [] w (w.alloc (.map #[] 0)) := (Touch.refl _ _).alloc _
  have hmk : (Instr.makeMap 39 none).run Try.prog w = .ok (.map (some b)) (w.alloc (.map #[] 0)) := by
    rw [hb0]
    exact run_makeMap (P := Try.prog) 39 w
  have HB := Lib.hid hb0
  clear hb0
  generalize w.alloc (.map #[] 0) = w0 at *
  go_enter Try.func24, Try.ntmps24
  go_wp2_with (first
    | (refine wpList_mt_insert _ rfl _ _ _ 39 3 rfl encS Try.underlying39 hM0 (by simp [maxLen]) (xk := ⟨#[98, 101, 103, 105, 110]⟩) (by unfold goodS maxLen; decide) rfl rfl (.int .i64 3) rfl ?_; intro w1 hM1 t1)
    | (refine wpList_mt_insert _ rfl _ _ _ 39 3 rfl encS Try.underlying39 hM1 (by simp [mput, maxLen]) (xk := ⟨#[99, 111, 109, 109, 105, 116]⟩) (by unfold goodS maxLen; decide) rfl rfl (.int .i64 4) rfl ?_; intro w2 hM2 t2)
    | (refine wpList_mt_insert _ rfl _ _ _ 39 3 rfl encS Try.underlying39 hM2 (by have := mput_length (mput [] (⟨#[98, 101, 103, 105, 110]⟩ : ByteArray) (Value.int .i64 3)) ⟨#[99, 111, 109, 109, 105, 116]⟩ (.int .i64 4); have h1 : (mput [] (⟨#[98, 101, 103, 105, 110]⟩ : ByteArray) (Value.int .i64 3)).length = 1 := rfl; unfold maxLen; omega) (xk := ⟨#[101, 110, 100]⟩) (by unfold goodS maxLen; decide) rfl rfl (.int .i64 4) rfl ?_; intro w3 hM3 t3))
  have e3 : mput (mput (mput [] (⟨#[98, 101, 103, 105, 110]⟩ : ByteArray) (Value.int .i64 3)) ⟨#[99, 111, 109, 109, 105, 116]⟩ (.int .i64 4)) ⟨#[101, 110, 100]⟩ (.int .i64 4) = fst0 := by simp [mput, fst0]
  rw [e3] at hM3
  have T3 : Touch [] w w3 := ((hT0.trans t1 (by have := HB.out; simp; omega)).trans t2 (by have := HB.out; simp; omega)).trans t3 (by have := HB.out; simp; omega)
  clear hM0 hM1 hM2 t1 t2 t3 hT0 hmk e3
  obtain ⟨g1, h_g1⟩ : ∃ g, g = w3.heap.size := ⟨_, rfl⟩
  have hr_g1 : (w3.alloc (.cells (fstW.map Value.string).toArray 9)).heap[g1]? = some (.cells (fstW.map Value.string).toArray 9 (0, 0)) := by rw [h_g1]; exact heap_alloc_new w3 _
  have hM_g1 : MapT (w3.alloc (.cells (fstW.map Value.string).toArray 9)) b strV goodS fst0 := hM3.of_block (by rw [RowKit.Below.heap_alloc _ _ _ hM3.lt])
  have T_g1 : Touch [] w (w3.alloc (.cells (fstW.map Value.string).toArray 9)) := T3.alloc _
  have hgb_g1 : g1 ≠ b := by have := hM3.lt; omega
  have hbg_g1 : w.heap.size ≤ g1 := by have := T3.size; omega
  clear hM3 T3
  have e_g1 : (fstW.map Value.string).toArray = #[.string ⟨#[105, 110, 115, 101, 114, 116]⟩, .string ⟨#[117, 112, 100, 97, 116, 101]⟩, .string ⟨#[100, 101, 108, 101, 116, 101]⟩, .string ⟨#[116, 114, 117, 110, 99, 97, 116, 101]⟩, .string ⟨#[109, 101, 114, 103, 101]⟩] := rfl
  rw [e_g1] at hr_g1 hM_g1 T_g1
  go_wp2_with fail
  rw [← h_g1]
  generalize (w3.alloc (Obj.cells #[.string ⟨#[105, 110, 115, 101, 114, 116]⟩, .string ⟨#[117, 112, 100, 97, 116, 101]⟩, .string ⟨#[100, 101, 108, 101, 116, 101]⟩, .string ⟨#[116, 114, 117, 110, 99, 97, 116, 101]⟩, .string ⟨#[109, 101, 114, 103, 101]⟩] 9)) = W_g1 at *
  rw [← e_g1] at hr_g1
  clear h_g1
  have S_g1 := Lib.hid (And.intro hM_g1 (And.intro hr_g1 (And.intro T_g1 (And.intro hgb_g1 hbg_g1))))
  clear hM_g1 hr_g1 T_g1 e_g1 hgb_g1 hbg_g1
  go_loopw [10] (fun i wr => ∃ k : Nat, i = .int .i64 k ∧ k ≤ 5 ∧ Hid (MapT wr b strV goodS (putAll 2 fst0 (fstW.take k)) ∧ wr.heap[g1]? = some (.cells (fstW.map Value.string).toArray 9 (0, 0)) ∧ Touch [] w wr)) (fun i _ => 5 - (intOf i).toNat)
  case atStart => exact ⟨0, rfl, Nat.zero_le _, Lib.hid ⟨S_g1.out.1, S_g1.out.2.1, S_g1.out.2.2.1⟩⟩
  case round =>
    obtain ⟨k, rfl, hk, H⟩ := hrel
    by_cases hlt : k < 5
    · have hkl : k < fstW.length := hlt
      have c0 := rowW H.out.2.1 k hkl
      have hgd := good_of fstW (by decide) k hkl
      have hst := putAll_step 2 fst0 fstW k hkl
      have hln := putAll_len 2 (fstW.take k) fst0
      obtain ⟨x, hx⟩ : ∃ x, x = fstW[k] := ⟨_, rfl⟩
      rw [← hx] at c0 hgd hst
      have hM := H.out.1
      have hcl : (putAll 2 fst0 (fstW.take k)).length < maxLen := by
        have h1 : (fstW.take k).length ≤ 5 := by rw [List.length_take]; omega
        have h2 : (fst0).length ≤ 100 := by decide
        unfold maxLen
        omega
      have HST := Lib.hid hst
      have HLT := Lib.hid hlt
      have HCL := Lib.hid hcl
      have h0 : (0 : Int) ≤ (k : Int) := by omega
      have h5 : (k : Int) < 5 := by omega
      clear hst hln hx hcl hlt
      go_wp2_with (at_mapUpdate; go_must (refine wpList_mt_store _ rfl _ _ _ 39 3 rfl encS Try.underlying39 hM HCL.out (xk := x) hgd rfl rfl (.int .i64 2) rfl ?_); intro w5 hM5 t5)
      go_roundw
      case rel => exact ⟨k + 1, by go_num, by have := HLT.out; omega, Lib.hid ⟨by rw [HST.out]; exact hM5, touch_blockOf t5 H.out.2.1 S_g1.out.2.2.2.1, H.out.2.2.trans t5 (by have := HB.out; simp; omega)⟩⟩
      case measure => have := HLT.out; simp [intOf]; omega
    · have hke : k = 5 := by omega
      have hge : ¬ (k : Int) < 5 := by omega
      obtain ⟨hM_x, hr_x, T_x⟩ := H.out
      rw [hke] at hM_x
      replace hM_x : MapT wr b strV goodS (putAll 2 fst0 fstW) := hM_x
      clear H hr_x hke hlt
      obtain ⟨g2, h_g2⟩ : ∃ g, g = wr.heap.size := ⟨_, rfl⟩
      have hr_g2 : (wr.alloc (.cells (fstS.map Value.string).toArray 9)).heap[g2]? = some (.cells (fstS.map Value.string).toArray 9 (0, 0)) := by rw [h_g2]; exact heap_alloc_new wr _
      have hM_g2 : MapT (wr.alloc (.cells (fstS.map Value.string).toArray 9)) b strV goodS (putAll 2 fst0 fstW) := hM_x.of_block (by rw [RowKit.Below.heap_alloc _ _ _ hM_x.lt])
      have T_g2 : Touch [] w (wr.alloc (.cells (fstS.map Value.string).toArray 9)) := T_x.alloc _
      have hgb_g2 : g2 ≠ b := by have := hM_x.lt; omega
      have hbg_g2 : w.heap.size ≤ g2 := by have := T_x.size; omega
      clear hM_x T_x
      have e_g2 : (fstS.map Value.string).toArray = #[.string ⟨#[115, 101, 116]⟩, .string ⟨#[114, 101, 115, 101, 116]⟩, .string ⟨#[100, 105, 115, 99, 97, 114, 100]⟩, .string ⟨#[108, 105, 115, 116, 101, 110]⟩, .string ⟨#[117, 110, 108, 105, 115, 116, 101, 110]⟩, .string ⟨#[112, 114, 101, 112, 97, 114, 101]⟩, .string ⟨#[100, 101, 97, 108, 108, 111, 99, 97, 116, 101]⟩, .string ⟨#[100, 101, 99, 108, 97, 114, 101]⟩, .string ⟨#[108, 111, 97, 100]⟩] := rfl
      rw [e_g2] at hr_g2 hM_g2 T_g2
      go_wp2_with fail
      rw [← h_g2]
      generalize (wr.alloc (Obj.cells #[.string ⟨#[115, 101, 116]⟩, .string ⟨#[114, 101, 115, 101, 116]⟩, .string ⟨#[100, 105, 115, 99, 97, 114, 100]⟩, .string ⟨#[108, 105, 115, 116, 101, 110]⟩, .string ⟨#[117, 110, 108, 105, 115, 116, 101, 110]⟩, .string ⟨#[112, 114, 101, 112, 97, 114, 101]⟩, .string ⟨#[100, 101, 97, 108, 108, 111, 99, 97, 116, 101]⟩, .string ⟨#[100, 101, 99, 108, 97, 114, 101]⟩, .string ⟨#[108, 111, 97, 100]⟩] 9)) = W_g2 at *
      rw [← e_g2] at hr_g2
      clear h_g2
      have S_g2 := Lib.hid (And.intro hM_g2 (And.intro hr_g2 (And.intro T_g2 (And.intro hgb_g2 hbg_g2))))
      clear hM_g2 hr_g2 T_g2 e_g2 hgb_g2 hbg_g2
      go_loopw [19] (fun i wr => ∃ k : Nat, i = .int .i64 k ∧ k ≤ 9 ∧ Hid (MapT wr b strV goodS (putAll 6 (putAll 2 fst0 fstW) (fstS.take k)) ∧ wr.heap[g2]? = some (.cells (fstS.map Value.string).toArray 9 (0, 0)) ∧ Touch [] w wr)) (fun i _ => 9 - (intOf i).toNat)
      case atStart => exact ⟨0, rfl, Nat.zero_le _, Lib.hid ⟨S_g2.out.1, S_g2.out.2.1, S_g2.out.2.2.1⟩⟩
      case round =>
        obtain ⟨k, rfl, hk, H⟩ := hrel
        by_cases hlt : k < 9
        · have hkl : k < fstS.length := hlt
          have c0 := rowW H.out.2.1 k hkl
          have hgd := good_of fstS (by decide) k hkl
          have hst := putAll_step 6 (putAll 2 fst0 fstW) fstS k hkl
          have hln := putAll_len 6 (fstS.take k) (putAll 2 fst0 fstW)
          obtain ⟨x, hx⟩ : ∃ x, x = fstS[k] := ⟨_, rfl⟩
          rw [← hx] at c0 hgd hst
          have hM := H.out.1
          have hcl : (putAll 6 (putAll 2 fst0 fstW) (fstS.take k)).length < maxLen := by
            have h1 : (fstS.take k).length ≤ 9 := by rw [List.length_take]; omega
            have h2 : ((putAll 2 fst0 fstW)).length ≤ 100 := by have := putAll_len 2 fstW fst0; have h8 : fst0.length = 3 := rfl; have h9 : fstW.length = 5 := rfl; omega
            unfold maxLen
            omega
          have HST := Lib.hid hst
          have HLT := Lib.hid hlt
          have HCL := Lib.hid hcl
          have h0 : (0 : Int) ≤ (k : Int) := by omega
          have h5 : (k : Int) < 9 := by omega
          clear hst hln hx hcl hlt
          go_wp2_with (at_mapUpdate; go_must (refine wpList_mt_store _ rfl _ _ _ 39 3 rfl encS Try.underlying39 hM HCL.out (xk := x) hgd rfl rfl (.int .i64 6) rfl ?_); intro w5 hM5 t5)
          go_roundw
          case rel => exact ⟨k + 1, by go_num, by have := HLT.out; omega, Lib.hid ⟨by rw [HST.out]; exact hM5, touch_blockOf t5 H.out.2.1 S_g2.out.2.2.2.1, H.out.2.2.trans t5 (by have := HB.out; simp; omega)⟩⟩
          case measure => have := HLT.out; simp [intOf]; omega
        · have hke : k = 9 := by omega
          have hge : ¬ (k : Int) < 9 := by omega
          obtain ⟨hM_x, hr_x, T_x⟩ := H.out
          rw [hke] at hM_x
          replace hM_x : MapT wr b strV goodS (fstF) := hM_x
          clear H hr_x hke hlt
          go_wp2_with fail
          go_ret
          exact ⟨b, rfl, hM_x, T_x⟩

def Ints (l : List (ByteArray × Value)) : Prop := ∀ p ∈ l, ∃ n : Int, p.2 = .int .i64 n
theorem Ints.put {l : List (ByteArray × Value)} (h : Ints l) (x : ByteArray) (m : Int) : Ints (mput l x (.int .i64 m)) := fun p hp => by
  rcases mput_mem hp with rfl | hp
  · exact ⟨m, rfl⟩
  · exact h p hp
theorem Ints.putAll (m : Int) (ks : List ByteArray) : ∀ l, Ints l → Ints (putAll m l ks) := by
  induction ks with
  | nil => exact fun _ h => h
  | cons x r ih => exact fun l h => ih _ (h.put x m)
theorem fst_int {x : ByteArray} {v : Value} (hv : mget fstF x = some v) : ∃ n : Int, v = .int .i64 n := by
  have h0 : Ints fst0 := by
    intro p hp
    simp only [fst0, List.mem_cons, List.not_mem_nil, or_false] at hp
    rcases hp with rfl | rfl | rfl
    · exact ⟨3, rfl⟩
    · exact ⟨4, rfl⟩
    · exact ⟨4, rfl⟩
  exact ((h0.putAll 2 fstW).putAll 6 fstS) _ (mget_mem hv)
/-- What the table says of a word: its class, or that it is not there. -/
def lookF (x : ByteArray) : Option Int := match mget fstF x with | some (.int _ n) => some n | _ => none
theorem look_any (w : World) (b : Nat) (h : MapT w b strV goodS fstF) (x : ByteArray) (hx : goodS x) : (Instr.lookup 39 (.map (some b)) (.string x) true).run Try.prog w = .ok (.tuple #[.int .i64 ((lookF x).getD 0), .bool (lookF x).isSome]) w := by
  cases hm : mget fstF x with
  | none =>
    have e := h.look_miss encS Try.underlying39 (zeroI w) hx hm true
    unfold lookF
    rw [hm]
    exact e
  | some v =>
    obtain ⟨n, rfl⟩ := fst_int hm
    have e := h.look_hit encS Try.underlying39 hx hm true
    unfold lookF
    rw [hm]
    exact e
theorem below_of_touch {w w' : World} (t : Touch [] w w') : Below w.heap.size w w' := ⟨t.os, t.tape, t.output, t.size, fun i hi => t.block i hi (by simp)⟩
def txt (l : List UInt8) : ByteArray → Bool := fun x => x.toList == l
def wSel : List UInt8 := [115, 101, 108, 101, 99, 116]
def wVal : List UInt8 := [118, 97, 108, 117, 101, 115]
def wTab : List UInt8 := [116, 97, 98, 108, 101]
def wWith : List UInt8 := [119, 105, 116, 104]
def wStart : List UInt8 := [115, 116, 97, 114, 116]
def wTrans : List UInt8 := [116, 114, 97, 110, 115, 97, 99, 116, 105, 111, 110]
def wRoll : List UInt8 := [114, 111, 108, 108, 98, 97, 99, 107]
def wAbort : List UInt8 := [97, 98, 111, 114, 116]
def bTo : ByteArray := ⟨#[116, 111]⟩
def restF (x : ByteArray) : Int := (lookF x).getD 8
/-- What Of says, by the words. -/
def ofW (k : Nat) (l : List S33) (ws : List ByteArray) : Option Int :=
  match ws with
  | [] => none
  | x :: r =>
    if x.size ≤ maxLen then
      if x.toList == wSel || x.toList == wVal || x.toList == wTab || x.toList == wWith then qcF k l
      else if x.toList == wStart then (match r with | y :: _ => if y.toList == wTrans then some 3 else some (restF x) | [] => some (restF x))
      else if (x.toList == wRoll || x.toList == wAbort) && !inF bTo ws then some 5
      else some (restF x)
    else none
def ofF (k : Nat) (l : List S33) : Option Int := if l.length ≤ 140737488351232 then (if l.length = 0 then some 0 else (class_words.f k l).bind fun ws => if ws.length ≤ 140737488351232 then ofW k l ws else none) else none
theorem words_read {w : World} {base : Nat} {v : Value} {ws : List ByteArray} (h : Kd.R Kd.string 9 w base (fun _ => True) v ws) (hn : 0 < ws.length) : ∃ g c, v = .slice (some ⟨g, 0, none⟩) ws.length c ∧ ws.length ≤ c ∧ Kd.C Kd.string w (some ⟨g, 0, none⟩) ws.length ws ∧ ∀ (k : Nat) (x : ByteArray), ws[k]? = some x → w.cell? ⟨g, k, none⟩ = some (.string x) := by
  obtain ⟨ad, c, rfl⟩ := Kd.R_slice1 h hn
  obtain ⟨g, rfl⟩ : ∃ g, ad = ⟨g, 0, none⟩ := by
    obtain ⟨_, inner, ho, _⟩ := h
    rcases ho.2 with ⟨hv, _⟩ | ⟨g, cap', cur, hv, _⟩
    · cases hv
    · injection hv with ha _ _
      injection ha with ha
      exact ⟨g, ha⟩
  obtain ⟨_, hc, hC⟩ := Kd.R_reads' h
  refine ⟨g, c, rfl, hc, hC, fun k x hx => ?_⟩
  have hk := (List.getElem?_eq_some_iff.1 hx).1
  obtain ⟨ad, cs, e, hl, hK, hcell⟩ := Kd.C_get hC ByteArray.empty (k : Int) (by omega) (by omega)
  cases e
  have e2 : ws.getD (k : Int).toNat ByteArray.empty = x := by rw [Int.toNat_natCast, List.getD_eq_getElem?_getD, hx]; rfl
  rw [e2] at hK
  have hcs : cs = [.string x] := hK
  have := hcell 0 (.string x) (by rw [hcs]; rfl)
  have hadd : (⟨g, 0, none⟩ : Addr).add k = ⟨g, k, none⟩ := by unfold Addr.add; split <;> simp_all
  have e3 : (k : Int).toNat * Kd.string.sz + 0 = k := by show (k : Int).toNat * 1 + 0 = k; omega
  rw [e3, hadd] at this
  exact this
set_option maxHeartbeats 2000000 in
theorem of_else (A : Option Addr) (c : Nat) (l : List S33) (w : World) (x : ByteArray) (r : List ByteArray) (hne : 0 < l.length)
    (HW : Hid (Calls Try.prog 21 #[.slice A l.length c] w fun e w' => ∃ v0_ : Value, e = .returned v0_ ∧ Kd.R Kd.string 9 w' w.heap.size (fun _ => True) v0_ (x :: r) ∧ Below w.heap.size w w'))
    (h1 : (x.toList == wSel) = false) (h2 : (x.toList == wVal) = false) (h3 : (x.toList == wTab) = false) (h4 : (x.toList == wWith) = false) (h5 : (x.toList == wStart) = false) (h6 : (x.toList == wRoll) = false) (h7 : (x.toList == wAbort) = false) (dv : Int) (ov : Bool) (hv : restF x = if ov then dv else 8) (LK : Hid (∀ w b, MapT w b strV goodS fstF → (Instr.lookup 39 (.map (some b)) (.string x) true).run Try.prog w = .ok (.tuple #[.int .i64 dv, .bool ov]) w)) :
    Calls Try.prog 10 #[.slice A l.length c] w fun e w' => e = .returned (.int .i64 (restF x)) ∧ Below w.heap.size w w' := by
  unfold wSel at h1
  unfold wVal at h2
  unfold wTab at h3
  unfold wWith at h4
  unfold wStart at h5
  unfold wRoll at h6
  unfold wAbort at h7
  have hn : 0 < (x :: r).length := by simp
  have hz : ((l.length : Int) == 0) = false := by rw [beq_eq_false_iff_ne]; omega
  have hz2 : l.length ≠ 0 := by omega
  cases ov with
  | false =>
    go_enter Try.func10, Try.ntmps10
    go_wp2_with (first | (go_at_call 21; refine HW.out.mono ?_; rintro e w1 ⟨v0, rfl, hR, b1⟩; obtain ⟨g, cp, rfl, hcp, hC, hcl⟩ := words_read hR hn; have hx0 := hcl 0 x rfl; have HCL := Lib.hid hcl; have HCC := Lib.hid hC; have HB1 := Lib.hid b1; clear hcl hC hR b1))
    refine wp_region_held (S := fun w' => w'.cell? ⟨g, 0, none⟩ = some (.string x)) (by kernel_rfl) ?_
    have hHeld : w1.drew.cell? ⟨g, 0, none⟩ = some (.string x) := hx0
    change wpAnyH _ _ _ _ _ 10 _ _ w1.drew
    refine wpAnyH_take (i := 1) (v := .slice (some ⟨g, 0, none⟩) (r.length + 1) cp) rfl (by kernel_rfl) (by kernel_rfl) (by kernel_rfl) (fun _ _ _ h => h) (Or.inl ⟨by rfl, by intro w hSw; (try dsimp only at hSw); go_simp; try (intro h9; exact absurd h9 (by omega))⟩) (by assumption) ?_
    change wpAnyH _ _ _ _ _ _ _ (Act.put _ (some 40) _) _
    refine wpAnyH_take (i := 2) (v := .pointer (some ⟨g, 0, none⟩)) rfl (by kernel_rfl) (by kernel_rfl) (by kernel_rfl) (fun _ _ _ h => h) (Or.inl ⟨by rfl, by intro w hSw; (try dsimp only at hSw); go_simp; try (intro h9; exact absurd h9 (by omega))⟩) (by assumption) ?_
    change wpAnyH _ _ _ _ _ _ _ (Act.put _ (some 41) _) _
    refine wpAnyH_take (i := 3) (v := .string x) rfl (by kernel_rfl) (by kernel_rfl) (by kernel_rfl) (fun _ _ _ h => h) (Or.inl ⟨by rfl, by intro w hSw; (try dsimp only at hSw); go_simp; try (intro h9; exact absurd h9 (by omega))⟩) (by assumption) ?_
    change wpAnyH _ _ _ _ _ _ _ (Act.put _ (some 42) _) _
    simp only [Act.put, List.setIfInBounds_toArray, List.set_cons_zero, List.set_cons_succ]
    refine wpAnyH_ready (rs := [0]) (by kernel_rfl) (by simp) ?_
    refine AllReadyH.cons rfl (fun K hK => ?_) AllReadyH.nil
    go_wp2_with (go_at_call 24; refine (firsts_any _).mono ?_; rintro e w2 ⟨b, rfl, hM, t2⟩; have hk2 := LK.out w2 b hM; have hx2 : w2.cell? ⟨g, 0, none⟩ = some (.string x) := t2.cell hx0 (by simp); have T2 := Lib.hid t2; clear t2 hM)
    refine hK.out _ _ hx2 (fun hx3 => ?_)
    rename_i hwant
    clear K hK hwant
    refine wpAnyH_ready (rs := [4]) (by kernel_rfl) (by simp) ?_
    refine AllReadyH.cons rfl (fun K hK => ?_) AllReadyH.nil
    go_wp2
    refine hK.out _ _ hx2 (fun hx4 => ?_)
    rename_i hwant
    clear K hK hwant
    refine wpAnyH_take (i := 5) (v := .tuple #[.int .i64 dv, .bool false]) rfl (by kernel_rfl) (by kernel_rfl) (by kernel_rfl) (fun _ _ _ h => h) (Or.inl ⟨by rfl, by intro w hSw; (try dsimp only at hSw); go_simp; try (intro h9; exact absurd h9 (by omega))⟩) (by assumption) ?_
    change wpAnyH _ _ _ _ _ _ _ (Act.put _ (some 38) _) _
    refine wpAnyH_take (i := 6) (v := .int .i64 dv) rfl (by kernel_rfl) (by kernel_rfl) (by kernel_rfl) (fun _ _ _ h => h) (Or.inl ⟨by rfl, by intro w hSw; (try dsimp only at hSw); go_simp; try (intro h9; exact absurd h9 (by omega))⟩) (by assumption) ?_
    change wpAnyH _ _ _ _ _ _ _ (Act.put _ (some 44) _) _
    refine wpAnyH_take (i := 7) (v := .bool false) rfl (by kernel_rfl) (by kernel_rfl) (by kernel_rfl) (fun _ _ _ h => h) (Or.inl ⟨by rfl, by intro w hSw; (try dsimp only at hSw); go_simp; try (intro h9; exact absurd h9 (by omega))⟩) (by assumption) ?_
    change wpAnyH _ _ _ _ _ _ _ (Act.put _ (some 45) _) _
    refine wpAnyH_take (i := 8) (v := .int .i64 dv) rfl (by kernel_rfl) (by kernel_rfl) (by kernel_rfl) (fun _ _ _ h => h) (Or.inl ⟨by rfl, by intro w hSw; (try dsimp only at hSw); go_simp; try (intro h9; exact absurd h9 (by omega))⟩) (by assumption) ?_
    change wpAnyH _ _ _ _ _ _ _ (Act.put _ (some 4) _) _
    refine wpAnyH_take (i := 9) (v := .bool false) rfl (by kernel_rfl) (by kernel_rfl) (by kernel_rfl) (fun _ _ _ h => h) (Or.inl ⟨by rfl, by intro w hSw; (try dsimp only at hSw); go_simp; try (intro h9; exact absurd h9 (by omega))⟩) (by assumption) ?_
    change wpAnyH _ _ _ _ _ _ _ (Act.put _ (some 5) _) _
    refine wpAnyH_done (by kernel_rfl) ?_ _
    simp only [Act.put, List.setIfInBounds_toArray, List.set_cons_zero, List.set_cons_succ]
    clear hHeld hx0 hx2 hx3 hx4 hk2
    have HF := Lib.hid (HB1.out.drew.trans ((below_of_touch T2.out).mono HB1.out.size))
    go_wp2
    go_ret
    have hv2 : restF x = 8 := by rw [hv]; simp
    refine ⟨?_, HF.out⟩
    rw [hv2]
    rfl
  | true =>
    go_enter Try.func10, Try.ntmps10
    go_wp2_with (first | (go_at_call 21; refine HW.out.mono ?_; rintro e w1 ⟨v0, rfl, hR, b1⟩; obtain ⟨g, cp, rfl, hcp, hC, hcl⟩ := words_read hR hn; have hx0 := hcl 0 x rfl; have HCL := Lib.hid hcl; have HCC := Lib.hid hC; have HB1 := Lib.hid b1; clear hcl hC hR b1))
    refine wp_region_held (S := fun w' => w'.cell? ⟨g, 0, none⟩ = some (.string x)) (by kernel_rfl) ?_
    have hHeld : w1.drew.cell? ⟨g, 0, none⟩ = some (.string x) := hx0
    change wpAnyH _ _ _ _ _ 10 _ _ w1.drew
    refine wpAnyH_take (i := 1) (v := .slice (some ⟨g, 0, none⟩) (r.length + 1) cp) rfl (by kernel_rfl) (by kernel_rfl) (by kernel_rfl) (fun _ _ _ h => h) (Or.inl ⟨by rfl, by intro w hSw; (try dsimp only at hSw); go_simp; try (intro h9; exact absurd h9 (by omega))⟩) (by assumption) ?_
    change wpAnyH _ _ _ _ _ _ _ (Act.put _ (some 40) _) _
    refine wpAnyH_take (i := 2) (v := .pointer (some ⟨g, 0, none⟩)) rfl (by kernel_rfl) (by kernel_rfl) (by kernel_rfl) (fun _ _ _ h => h) (Or.inl ⟨by rfl, by intro w hSw; (try dsimp only at hSw); go_simp; try (intro h9; exact absurd h9 (by omega))⟩) (by assumption) ?_
    change wpAnyH _ _ _ _ _ _ _ (Act.put _ (some 41) _) _
    refine wpAnyH_take (i := 3) (v := .string x) rfl (by kernel_rfl) (by kernel_rfl) (by kernel_rfl) (fun _ _ _ h => h) (Or.inl ⟨by rfl, by intro w hSw; (try dsimp only at hSw); go_simp; try (intro h9; exact absurd h9 (by omega))⟩) (by assumption) ?_
    change wpAnyH _ _ _ _ _ _ _ (Act.put _ (some 42) _) _
    simp only [Act.put, List.setIfInBounds_toArray, List.set_cons_zero, List.set_cons_succ]
    refine wpAnyH_ready (rs := [0]) (by kernel_rfl) (by simp) ?_
    refine AllReadyH.cons rfl (fun K hK => ?_) AllReadyH.nil
    go_wp2_with (go_at_call 24; refine (firsts_any _).mono ?_; rintro e w2 ⟨b, rfl, hM, t2⟩; have hk2 := LK.out w2 b hM; have hx2 : w2.cell? ⟨g, 0, none⟩ = some (.string x) := t2.cell hx0 (by simp); have T2 := Lib.hid t2; clear t2 hM)
    refine hK.out _ _ hx2 (fun hx3 => ?_)
    rename_i hwant
    clear K hK hwant
    refine wpAnyH_ready (rs := [4]) (by kernel_rfl) (by simp) ?_
    refine AllReadyH.cons rfl (fun K hK => ?_) AllReadyH.nil
    go_wp2
    refine hK.out _ _ hx2 (fun hx4 => ?_)
    rename_i hwant
    clear K hK hwant
    refine wpAnyH_take (i := 5) (v := .tuple #[.int .i64 dv, .bool true]) rfl (by kernel_rfl) (by kernel_rfl) (by kernel_rfl) (fun _ _ _ h => h) (Or.inl ⟨by rfl, by intro w hSw; (try dsimp only at hSw); go_simp; try (intro h9; exact absurd h9 (by omega))⟩) (by assumption) ?_
    change wpAnyH _ _ _ _ _ _ _ (Act.put _ (some 38) _) _
    refine wpAnyH_take (i := 6) (v := .int .i64 dv) rfl (by kernel_rfl) (by kernel_rfl) (by kernel_rfl) (fun _ _ _ h => h) (Or.inl ⟨by rfl, by intro w hSw; (try dsimp only at hSw); go_simp; try (intro h9; exact absurd h9 (by omega))⟩) (by assumption) ?_
    change wpAnyH _ _ _ _ _ _ _ (Act.put _ (some 44) _) _
    refine wpAnyH_take (i := 7) (v := .bool true) rfl (by kernel_rfl) (by kernel_rfl) (by kernel_rfl) (fun _ _ _ h => h) (Or.inl ⟨by rfl, by intro w hSw; (try dsimp only at hSw); go_simp; try (intro h9; exact absurd h9 (by omega))⟩) (by assumption) ?_
    change wpAnyH _ _ _ _ _ _ _ (Act.put _ (some 45) _) _
    refine wpAnyH_take (i := 8) (v := .int .i64 dv) rfl (by kernel_rfl) (by kernel_rfl) (by kernel_rfl) (fun _ _ _ h => h) (Or.inl ⟨by rfl, by intro w hSw; (try dsimp only at hSw); go_simp; try (intro h9; exact absurd h9 (by omega))⟩) (by assumption) ?_
    change wpAnyH _ _ _ _ _ _ _ (Act.put _ (some 4) _) _
    refine wpAnyH_take (i := 9) (v := .bool true) rfl (by kernel_rfl) (by kernel_rfl) (by kernel_rfl) (fun _ _ _ h => h) (Or.inl ⟨by rfl, by intro w hSw; (try dsimp only at hSw); go_simp; try (intro h9; exact absurd h9 (by omega))⟩) (by assumption) ?_
    change wpAnyH _ _ _ _ _ _ _ (Act.put _ (some 5) _) _
    refine wpAnyH_done (by kernel_rfl) ?_ _
    simp only [Act.put, List.setIfInBounds_toArray, List.set_cons_zero, List.set_cons_succ]
    clear hHeld hx0 hx2 hx3 hx4 hk2
    have HF := Lib.hid (HB1.out.drew.trans ((below_of_touch T2.out).mono HB1.out.size))
    go_wp2
    go_ret
    have hv2 : restF x = dv := by rw [hv]; simp
    refine ⟨?_, HF.out⟩
    rw [hv2]
    rfl
set_option maxHeartbeats 2000000 in
theorem of_q0 (A : Option Addr) (c : Nat) (l : List S33) (w : World) (x : ByteArray) (r : List ByteArray) (hne : 0 < l.length)
    (HW : Hid (Calls Try.prog 21 #[.slice A l.length c] w fun e w' => ∃ v0_ : Value, e = .returned v0_ ∧ Kd.R Kd.string 9 w' w.heap.size (fun _ => True) v0_ (x :: r) ∧ Below w.heap.size w w'))
    (h1 : (x.toList == wSel) = true) (q : Int) (HQ : Hid (∀ w1, Below w.heap.size w w1 → Calls Try.prog 22 #[.slice A l.length c] w1 fun e w' => e = .returned (.int .i64 q) ∧ Below w1.heap.size w1 w')) :
    Calls Try.prog 10 #[.slice A l.length c] w fun e w' => e = .returned (.int .i64 (q)) ∧ Below w.heap.size w w' := by
  unfold wSel at h1
  have hn : 0 < (x :: r).length := by simp
  have hz : ((l.length : Int) == 0) = false := by rw [beq_eq_false_iff_ne]; omega
  have hz2 : l.length ≠ 0 := by omega
  go_enter Try.func10, Try.ntmps10
  go_wp2_with (first | (go_at_call 21; refine HW.out.mono ?_; rintro e w1 ⟨v0, rfl, hR, b1⟩; obtain ⟨g, cp, rfl, hcp, hC, hcl⟩ := words_read hR hn; have hx0 := hcl 0 x rfl; have HCL := Lib.hid hcl; have HCC := Lib.hid hC; have HB1 := Lib.hid b1; clear hcl hC hR b1) | (go_at_call 22; refine (HQ.out _ HB1.out).mono ?_; rintro e w2 ⟨rfl, b2⟩))
  go_ret
  exact ⟨rfl, HB1.out.trans (b2.mono HB1.out.size)⟩
set_option maxHeartbeats 2000000 in
theorem of_q1 (A : Option Addr) (c : Nat) (l : List S33) (w : World) (x : ByteArray) (r : List ByteArray) (hne : 0 < l.length)
    (HW : Hid (Calls Try.prog 21 #[.slice A l.length c] w fun e w' => ∃ v0_ : Value, e = .returned v0_ ∧ Kd.R Kd.string 9 w' w.heap.size (fun _ => True) v0_ (x :: r) ∧ Below w.heap.size w w'))
    (h1 : (x.toList == wSel) = false) (h2 : (x.toList == wVal) = true) (q : Int) (HQ : Hid (∀ w1, Below w.heap.size w w1 → Calls Try.prog 22 #[.slice A l.length c] w1 fun e w' => e = .returned (.int .i64 q) ∧ Below w1.heap.size w1 w')) :
    Calls Try.prog 10 #[.slice A l.length c] w fun e w' => e = .returned (.int .i64 (q)) ∧ Below w.heap.size w w' := by
  unfold wSel at h1
  unfold wVal at h2
  have hn : 0 < (x :: r).length := by simp
  have hz : ((l.length : Int) == 0) = false := by rw [beq_eq_false_iff_ne]; omega
  have hz2 : l.length ≠ 0 := by omega
  go_enter Try.func10, Try.ntmps10
  go_wp2_with (first | (go_at_call 21; refine HW.out.mono ?_; rintro e w1 ⟨v0, rfl, hR, b1⟩; obtain ⟨g, cp, rfl, hcp, hC, hcl⟩ := words_read hR hn; have hx0 := hcl 0 x rfl; have HCL := Lib.hid hcl; have HCC := Lib.hid hC; have HB1 := Lib.hid b1; clear hcl hC hR b1) | (go_at_call 22; refine (HQ.out _ HB1.out).mono ?_; rintro e w2 ⟨rfl, b2⟩))
  go_ret
  exact ⟨rfl, HB1.out.trans (b2.mono HB1.out.size)⟩
set_option maxHeartbeats 2000000 in
theorem of_q2 (A : Option Addr) (c : Nat) (l : List S33) (w : World) (x : ByteArray) (r : List ByteArray) (hne : 0 < l.length)
    (HW : Hid (Calls Try.prog 21 #[.slice A l.length c] w fun e w' => ∃ v0_ : Value, e = .returned v0_ ∧ Kd.R Kd.string 9 w' w.heap.size (fun _ => True) v0_ (x :: r) ∧ Below w.heap.size w w'))
    (h1 : (x.toList == wSel) = false) (h2 : (x.toList == wVal) = false) (h3 : (x.toList == wTab) = true) (q : Int) (HQ : Hid (∀ w1, Below w.heap.size w w1 → Calls Try.prog 22 #[.slice A l.length c] w1 fun e w' => e = .returned (.int .i64 q) ∧ Below w1.heap.size w1 w')) :
    Calls Try.prog 10 #[.slice A l.length c] w fun e w' => e = .returned (.int .i64 (q)) ∧ Below w.heap.size w w' := by
  unfold wSel at h1
  unfold wVal at h2
  unfold wTab at h3
  have hn : 0 < (x :: r).length := by simp
  have hz : ((l.length : Int) == 0) = false := by rw [beq_eq_false_iff_ne]; omega
  have hz2 : l.length ≠ 0 := by omega
  go_enter Try.func10, Try.ntmps10
  go_wp2_with (first | (go_at_call 21; refine HW.out.mono ?_; rintro e w1 ⟨v0, rfl, hR, b1⟩; obtain ⟨g, cp, rfl, hcp, hC, hcl⟩ := words_read hR hn; have hx0 := hcl 0 x rfl; have HCL := Lib.hid hcl; have HCC := Lib.hid hC; have HB1 := Lib.hid b1; clear hcl hC hR b1) | (go_at_call 22; refine (HQ.out _ HB1.out).mono ?_; rintro e w2 ⟨rfl, b2⟩))
  go_ret
  exact ⟨rfl, HB1.out.trans (b2.mono HB1.out.size)⟩
set_option maxHeartbeats 2000000 in
theorem of_q3 (A : Option Addr) (c : Nat) (l : List S33) (w : World) (x : ByteArray) (r : List ByteArray) (hne : 0 < l.length)
    (HW : Hid (Calls Try.prog 21 #[.slice A l.length c] w fun e w' => ∃ v0_ : Value, e = .returned v0_ ∧ Kd.R Kd.string 9 w' w.heap.size (fun _ => True) v0_ (x :: r) ∧ Below w.heap.size w w'))
    (h1 : (x.toList == wSel) = false) (h2 : (x.toList == wVal) = false) (h3 : (x.toList == wTab) = false) (h4 : (x.toList == wWith) = true) (q : Int) (HQ : Hid (∀ w1, Below w.heap.size w w1 → Calls Try.prog 22 #[.slice A l.length c] w1 fun e w' => e = .returned (.int .i64 q) ∧ Below w1.heap.size w1 w')) :
    Calls Try.prog 10 #[.slice A l.length c] w fun e w' => e = .returned (.int .i64 (q)) ∧ Below w.heap.size w w' := by
  unfold wSel at h1
  unfold wVal at h2
  unfold wTab at h3
  unfold wWith at h4
  have hn : 0 < (x :: r).length := by simp
  have hz : ((l.length : Int) == 0) = false := by rw [beq_eq_false_iff_ne]; omega
  have hz2 : l.length ≠ 0 := by omega
  go_enter Try.func10, Try.ntmps10
  go_wp2_with (first | (go_at_call 21; refine HW.out.mono ?_; rintro e w1 ⟨v0, rfl, hR, b1⟩; obtain ⟨g, cp, rfl, hcp, hC, hcl⟩ := words_read hR hn; have hx0 := hcl 0 x rfl; have HCL := Lib.hid hcl; have HCC := Lib.hid hC; have HB1 := Lib.hid b1; clear hcl hC hR b1) | (go_at_call 22; refine (HQ.out _ HB1.out).mono ?_; rintro e w2 ⟨rfl, b2⟩))
  go_ret
  exact ⟨rfl, HB1.out.trans (b2.mono HB1.out.size)⟩
set_option maxHeartbeats 2000000 in
theorem of_start0 (A : Option Addr) (c : Nat) (l : List S33) (w : World) (x : ByteArray)  (hne : 0 < l.length)
    (HW : Hid (Calls Try.prog 21 #[.slice A l.length c] w fun e w' => ∃ v0_ : Value, e = .returned v0_ ∧ Kd.R Kd.string 9 w' w.heap.size (fun _ => True) v0_ ([x]) ∧ Below w.heap.size w w'))
    (h1 : (x.toList == wSel) = false) (h2 : (x.toList == wVal) = false) (h3 : (x.toList == wTab) = false) (h4 : (x.toList == wWith) = false) (h5 : (x.toList == wStart) = true) (dv : Int) (ov : Bool) (hv : restF x = if ov then dv else 8) (LK : Hid (∀ w b, MapT w b strV goodS fstF → (Instr.lookup 39 (.map (some b)) (.string x) true).run Try.prog w = .ok (.tuple #[.int .i64 dv, .bool ov]) w)) :
    Calls Try.prog 10 #[.slice A l.length c] w fun e w' => e = .returned (.int .i64 (restF x)) ∧ Below w.heap.size w w' := by
  unfold wSel at h1
  unfold wVal at h2
  unfold wTab at h3
  unfold wWith at h4
  unfold wStart at h5
  have hn : 0 < ([x]).length := by simp
  have hz : ((l.length : Int) == 0) = false := by rw [beq_eq_false_iff_ne]; omega
  have hz2 : l.length ≠ 0 := by omega
  cases ov with
  | false =>
    go_enter Try.func10, Try.ntmps10
    go_wp2_with (first | (go_at_call 21; refine HW.out.mono ?_; rintro e w1 ⟨v0, rfl, hR, b1⟩; obtain ⟨g, cp, rfl, hcp, hC, hcl⟩ := words_read hR hn; have hx0 := hcl 0 x rfl; have HCL := Lib.hid hcl; have HCC := Lib.hid hC; have HB1 := Lib.hid b1; clear hcl hC hR b1))
    refine wp_region_held (S := fun w' => w'.cell? ⟨g, 0, none⟩ = some (.string x)) (by kernel_rfl) ?_
    have hHeld : w1.drew.cell? ⟨g, 0, none⟩ = some (.string x) := hx0
    change wpAnyH _ _ _ _ _ 10 _ _ w1.drew
    refine wpAnyH_take (i := 1) (v := .slice (some ⟨g, 0, none⟩) 1 cp) rfl (by kernel_rfl) (by kernel_rfl) (by kernel_rfl) (fun _ _ _ h => h) (Or.inl ⟨by rfl, by intro w hSw; (try dsimp only at hSw); go_simp; try (intro h9; exact absurd h9 (by omega))⟩) (by assumption) ?_
    change wpAnyH _ _ _ _ _ _ _ (Act.put _ (some 40) _) _
    refine wpAnyH_take (i := 2) (v := .pointer (some ⟨g, 0, none⟩)) rfl (by kernel_rfl) (by kernel_rfl) (by kernel_rfl) (fun _ _ _ h => h) (Or.inl ⟨by rfl, by intro w hSw; (try dsimp only at hSw); go_simp; try (intro h9; exact absurd h9 (by omega))⟩) (by assumption) ?_
    change wpAnyH _ _ _ _ _ _ _ (Act.put _ (some 41) _) _
    refine wpAnyH_take (i := 3) (v := .string x) rfl (by kernel_rfl) (by kernel_rfl) (by kernel_rfl) (fun _ _ _ h => h) (Or.inl ⟨by rfl, by intro w hSw; (try dsimp only at hSw); go_simp; try (intro h9; exact absurd h9 (by omega))⟩) (by assumption) ?_
    change wpAnyH _ _ _ _ _ _ _ (Act.put _ (some 42) _) _
    simp only [Act.put, List.setIfInBounds_toArray, List.set_cons_zero, List.set_cons_succ]
    refine wpAnyH_ready (rs := [0]) (by kernel_rfl) (by simp) ?_
    refine AllReadyH.cons rfl (fun K hK => ?_) AllReadyH.nil
    go_wp2_with (go_at_call 24; refine (firsts_any _).mono ?_; rintro e w2 ⟨b, rfl, hM, t2⟩; have hk2 := LK.out w2 b hM; have hx2 : w2.cell? ⟨g, 0, none⟩ = some (.string x) := t2.cell hx0 (by simp); have T2 := Lib.hid t2; clear t2 hM)
    refine hK.out _ _ hx2 (fun hx3 => ?_)
    rename_i hwant
    clear K hK hwant
    refine wpAnyH_ready (rs := [4]) (by kernel_rfl) (by simp) ?_
    refine AllReadyH.cons rfl (fun K hK => ?_) AllReadyH.nil
    go_wp2
    refine hK.out _ _ hx2 (fun hx4 => ?_)
    rename_i hwant
    clear K hK hwant
    refine wpAnyH_take (i := 5) (v := .tuple #[.int .i64 dv, .bool false]) rfl (by kernel_rfl) (by kernel_rfl) (by kernel_rfl) (fun _ _ _ h => h) (Or.inl ⟨by rfl, by intro w hSw; (try dsimp only at hSw); go_simp; try (intro h9; exact absurd h9 (by omega))⟩) (by assumption) ?_
    change wpAnyH _ _ _ _ _ _ _ (Act.put _ (some 38) _) _
    refine wpAnyH_take (i := 6) (v := .int .i64 dv) rfl (by kernel_rfl) (by kernel_rfl) (by kernel_rfl) (fun _ _ _ h => h) (Or.inl ⟨by rfl, by intro w hSw; (try dsimp only at hSw); go_simp; try (intro h9; exact absurd h9 (by omega))⟩) (by assumption) ?_
    change wpAnyH _ _ _ _ _ _ _ (Act.put _ (some 44) _) _
    refine wpAnyH_take (i := 7) (v := .bool false) rfl (by kernel_rfl) (by kernel_rfl) (by kernel_rfl) (fun _ _ _ h => h) (Or.inl ⟨by rfl, by intro w hSw; (try dsimp only at hSw); go_simp; try (intro h9; exact absurd h9 (by omega))⟩) (by assumption) ?_
    change wpAnyH _ _ _ _ _ _ _ (Act.put _ (some 45) _) _
    refine wpAnyH_take (i := 8) (v := .int .i64 dv) rfl (by kernel_rfl) (by kernel_rfl) (by kernel_rfl) (fun _ _ _ h => h) (Or.inl ⟨by rfl, by intro w hSw; (try dsimp only at hSw); go_simp; try (intro h9; exact absurd h9 (by omega))⟩) (by assumption) ?_
    change wpAnyH _ _ _ _ _ _ _ (Act.put _ (some 4) _) _
    refine wpAnyH_take (i := 9) (v := .bool false) rfl (by kernel_rfl) (by kernel_rfl) (by kernel_rfl) (fun _ _ _ h => h) (Or.inl ⟨by rfl, by intro w hSw; (try dsimp only at hSw); go_simp; try (intro h9; exact absurd h9 (by omega))⟩) (by assumption) ?_
    change wpAnyH _ _ _ _ _ _ _ (Act.put _ (some 5) _) _
    refine wpAnyH_done (by kernel_rfl) ?_ _
    simp only [Act.put, List.setIfInBounds_toArray, List.set_cons_zero, List.set_cons_succ]
    clear hHeld hx0 hx2 hx3 hx4 hk2
    have HF := Lib.hid (HB1.out.drew.trans ((below_of_touch T2.out).mono HB1.out.size))
    go_wp2
    go_ret
    have hv2 : restF x = 8 := by rw [hv]; simp
    refine ⟨?_, HF.out⟩
    rw [hv2]
    rfl
  | true =>
    go_enter Try.func10, Try.ntmps10
    go_wp2_with (first | (go_at_call 21; refine HW.out.mono ?_; rintro e w1 ⟨v0, rfl, hR, b1⟩; obtain ⟨g, cp, rfl, hcp, hC, hcl⟩ := words_read hR hn; have hx0 := hcl 0 x rfl; have HCL := Lib.hid hcl; have HCC := Lib.hid hC; have HB1 := Lib.hid b1; clear hcl hC hR b1))
    refine wp_region_held (S := fun w' => w'.cell? ⟨g, 0, none⟩ = some (.string x)) (by kernel_rfl) ?_
    have hHeld : w1.drew.cell? ⟨g, 0, none⟩ = some (.string x) := hx0
    change wpAnyH _ _ _ _ _ 10 _ _ w1.drew
    refine wpAnyH_take (i := 1) (v := .slice (some ⟨g, 0, none⟩) 1 cp) rfl (by kernel_rfl) (by kernel_rfl) (by kernel_rfl) (fun _ _ _ h => h) (Or.inl ⟨by rfl, by intro w hSw; (try dsimp only at hSw); go_simp; try (intro h9; exact absurd h9 (by omega))⟩) (by assumption) ?_
    change wpAnyH _ _ _ _ _ _ _ (Act.put _ (some 40) _) _
    refine wpAnyH_take (i := 2) (v := .pointer (some ⟨g, 0, none⟩)) rfl (by kernel_rfl) (by kernel_rfl) (by kernel_rfl) (fun _ _ _ h => h) (Or.inl ⟨by rfl, by intro w hSw; (try dsimp only at hSw); go_simp; try (intro h9; exact absurd h9 (by omega))⟩) (by assumption) ?_
    change wpAnyH _ _ _ _ _ _ _ (Act.put _ (some 41) _) _
    refine wpAnyH_take (i := 3) (v := .string x) rfl (by kernel_rfl) (by kernel_rfl) (by kernel_rfl) (fun _ _ _ h => h) (Or.inl ⟨by rfl, by intro w hSw; (try dsimp only at hSw); go_simp; try (intro h9; exact absurd h9 (by omega))⟩) (by assumption) ?_
    change wpAnyH _ _ _ _ _ _ _ (Act.put _ (some 42) _) _
    simp only [Act.put, List.setIfInBounds_toArray, List.set_cons_zero, List.set_cons_succ]
    refine wpAnyH_ready (rs := [0]) (by kernel_rfl) (by simp) ?_
    refine AllReadyH.cons rfl (fun K hK => ?_) AllReadyH.nil
    go_wp2_with (go_at_call 24; refine (firsts_any _).mono ?_; rintro e w2 ⟨b, rfl, hM, t2⟩; have hk2 := LK.out w2 b hM; have hx2 : w2.cell? ⟨g, 0, none⟩ = some (.string x) := t2.cell hx0 (by simp); have T2 := Lib.hid t2; clear t2 hM)
    refine hK.out _ _ hx2 (fun hx3 => ?_)
    rename_i hwant
    clear K hK hwant
    refine wpAnyH_ready (rs := [4]) (by kernel_rfl) (by simp) ?_
    refine AllReadyH.cons rfl (fun K hK => ?_) AllReadyH.nil
    go_wp2
    refine hK.out _ _ hx2 (fun hx4 => ?_)
    rename_i hwant
    clear K hK hwant
    refine wpAnyH_take (i := 5) (v := .tuple #[.int .i64 dv, .bool true]) rfl (by kernel_rfl) (by kernel_rfl) (by kernel_rfl) (fun _ _ _ h => h) (Or.inl ⟨by rfl, by intro w hSw; (try dsimp only at hSw); go_simp; try (intro h9; exact absurd h9 (by omega))⟩) (by assumption) ?_
    change wpAnyH _ _ _ _ _ _ _ (Act.put _ (some 38) _) _
    refine wpAnyH_take (i := 6) (v := .int .i64 dv) rfl (by kernel_rfl) (by kernel_rfl) (by kernel_rfl) (fun _ _ _ h => h) (Or.inl ⟨by rfl, by intro w hSw; (try dsimp only at hSw); go_simp; try (intro h9; exact absurd h9 (by omega))⟩) (by assumption) ?_
    change wpAnyH _ _ _ _ _ _ _ (Act.put _ (some 44) _) _
    refine wpAnyH_take (i := 7) (v := .bool true) rfl (by kernel_rfl) (by kernel_rfl) (by kernel_rfl) (fun _ _ _ h => h) (Or.inl ⟨by rfl, by intro w hSw; (try dsimp only at hSw); go_simp; try (intro h9; exact absurd h9 (by omega))⟩) (by assumption) ?_
    change wpAnyH _ _ _ _ _ _ _ (Act.put _ (some 45) _) _
    refine wpAnyH_take (i := 8) (v := .int .i64 dv) rfl (by kernel_rfl) (by kernel_rfl) (by kernel_rfl) (fun _ _ _ h => h) (Or.inl ⟨by rfl, by intro w hSw; (try dsimp only at hSw); go_simp; try (intro h9; exact absurd h9 (by omega))⟩) (by assumption) ?_
    change wpAnyH _ _ _ _ _ _ _ (Act.put _ (some 4) _) _
    refine wpAnyH_take (i := 9) (v := .bool true) rfl (by kernel_rfl) (by kernel_rfl) (by kernel_rfl) (fun _ _ _ h => h) (Or.inl ⟨by rfl, by intro w hSw; (try dsimp only at hSw); go_simp; try (intro h9; exact absurd h9 (by omega))⟩) (by assumption) ?_
    change wpAnyH _ _ _ _ _ _ _ (Act.put _ (some 5) _) _
    refine wpAnyH_done (by kernel_rfl) ?_ _
    simp only [Act.put, List.setIfInBounds_toArray, List.set_cons_zero, List.set_cons_succ]
    clear hHeld hx0 hx2 hx3 hx4 hk2
    have HF := Lib.hid (HB1.out.drew.trans ((below_of_touch T2.out).mono HB1.out.size))
    go_wp2
    go_ret
    have hv2 : restF x = dv := by rw [hv]; simp
    refine ⟨?_, HF.out⟩
    rw [hv2]
    rfl
set_option maxHeartbeats 2000000 in
theorem of_start1 (A : Option Addr) (c : Nat) (l : List S33) (w : World) (x : ByteArray) (y : ByteArray) (r : List ByteArray) (hne : 0 < l.length)
    (HW : Hid (Calls Try.prog 21 #[.slice A l.length c] w fun e w' => ∃ v0_ : Value, e = .returned v0_ ∧ Kd.R Kd.string 9 w' w.heap.size (fun _ => True) v0_ (x :: y :: r) ∧ Below w.heap.size w w'))
    (h1 : (x.toList == wSel) = false) (h2 : (x.toList == wVal) = false) (h3 : (x.toList == wTab) = false) (h4 : (x.toList == wWith) = false) (h5 : (x.toList == wStart) = true) (hy : (y.toList == wTrans) = true) :
    Calls Try.prog 10 #[.slice A l.length c] w fun e w' => e = .returned (.int .i64 (3)) ∧ Below w.heap.size w w' := by
  unfold wSel at h1
  unfold wVal at h2
  unfold wTab at h3
  unfold wWith at h4
  unfold wStart at h5
  have hn : 0 < (x :: y :: r).length := by simp
  have hz : ((l.length : Int) == 0) = false := by rw [beq_eq_false_iff_ne]; omega
  have hz2 : l.length ≠ 0 := by omega
  unfold wTrans at hy
  go_enter Try.func10, Try.ntmps10
  go_wp2_with (first | (go_at_call 21; refine HW.out.mono ?_; rintro e w1 ⟨v0, rfl, hR, b1⟩; obtain ⟨g, cp, rfl, hcp, hC, hcl⟩ := words_read hR hn; have hx0 := hcl 0 x rfl; have hy0 := hcl 1 y rfl; have HCL := Lib.hid hcl; have HCC := Lib.hid hC; have HB1 := Lib.hid b1; clear hcl hC hR b1))
  go_ret
  exact ⟨rfl, HB1.out⟩
set_option maxHeartbeats 2000000 in
theorem of_start2 (A : Option Addr) (c : Nat) (l : List S33) (w : World) (x : ByteArray) (y : ByteArray) (r : List ByteArray) (hne : 0 < l.length)
    (HW : Hid (Calls Try.prog 21 #[.slice A l.length c] w fun e w' => ∃ v0_ : Value, e = .returned v0_ ∧ Kd.R Kd.string 9 w' w.heap.size (fun _ => True) v0_ (x :: y :: r) ∧ Below w.heap.size w w'))
    (h1 : (x.toList == wSel) = false) (h2 : (x.toList == wVal) = false) (h3 : (x.toList == wTab) = false) (h4 : (x.toList == wWith) = false) (h5 : (x.toList == wStart) = true) (hy : (y.toList == wTrans) = false) (dv : Int) (ov : Bool) (hv : restF x = if ov then dv else 8) (LK : Hid (∀ w b, MapT w b strV goodS fstF → (Instr.lookup 39 (.map (some b)) (.string x) true).run Try.prog w = .ok (.tuple #[.int .i64 dv, .bool ov]) w)) :
    Calls Try.prog 10 #[.slice A l.length c] w fun e w' => e = .returned (.int .i64 (restF x)) ∧ Below w.heap.size w w' := by
  unfold wSel at h1
  unfold wVal at h2
  unfold wTab at h3
  unfold wWith at h4
  unfold wStart at h5
  have hn : 0 < (x :: y :: r).length := by simp
  have hz : ((l.length : Int) == 0) = false := by rw [beq_eq_false_iff_ne]; omega
  have hz2 : l.length ≠ 0 := by omega
  unfold wTrans at hy
  cases ov with
  | false =>
    go_enter Try.func10, Try.ntmps10
    go_wp2_with (first | (go_at_call 21; refine HW.out.mono ?_; rintro e w1 ⟨v0, rfl, hR, b1⟩; obtain ⟨g, cp, rfl, hcp, hC, hcl⟩ := words_read hR hn; have hx0 := hcl 0 x rfl; have hy0 := hcl 1 y rfl; have HCL := Lib.hid hcl; have HCC := Lib.hid hC; have HB1 := Lib.hid b1; clear hcl hC hR b1))
    refine wp_region_held (S := fun w' => w'.cell? ⟨g, 0, none⟩ = some (.string x)) (by kernel_rfl) ?_
    have hHeld : w1.drew.cell? ⟨g, 0, none⟩ = some (.string x) := hx0
    change wpAnyH _ _ _ _ _ 10 _ _ w1.drew
    refine wpAnyH_take (i := 1) (v := .slice (some ⟨g, 0, none⟩) (r.length + 1 + 1) cp) rfl (by kernel_rfl) (by kernel_rfl) (by kernel_rfl) (fun _ _ _ h => h) (Or.inl ⟨by rfl, by intro w hSw; (try dsimp only at hSw); go_simp; try (intro h9; exact absurd h9 (by omega))⟩) (by assumption) ?_
    change wpAnyH _ _ _ _ _ _ _ (Act.put _ (some 40) _) _
    refine wpAnyH_take (i := 2) (v := .pointer (some ⟨g, 0, none⟩)) rfl (by kernel_rfl) (by kernel_rfl) (by kernel_rfl) (fun _ _ _ h => h) (Or.inl ⟨by rfl, by intro w hSw; (try dsimp only at hSw); go_simp; try (intro h9; exact absurd h9 (by omega))⟩) (by assumption) ?_
    change wpAnyH _ _ _ _ _ _ _ (Act.put _ (some 41) _) _
    refine wpAnyH_take (i := 3) (v := .string x) rfl (by kernel_rfl) (by kernel_rfl) (by kernel_rfl) (fun _ _ _ h => h) (Or.inl ⟨by rfl, by intro w hSw; (try dsimp only at hSw); go_simp; try (intro h9; exact absurd h9 (by omega))⟩) (by assumption) ?_
    change wpAnyH _ _ _ _ _ _ _ (Act.put _ (some 42) _) _
    simp only [Act.put, List.setIfInBounds_toArray, List.set_cons_zero, List.set_cons_succ]
    refine wpAnyH_ready (rs := [0]) (by kernel_rfl) (by simp) ?_
    refine AllReadyH.cons rfl (fun K hK => ?_) AllReadyH.nil
    go_wp2_with (go_at_call 24; refine (firsts_any _).mono ?_; rintro e w2 ⟨b, rfl, hM, t2⟩; have hk2 := LK.out w2 b hM; have hx2 : w2.cell? ⟨g, 0, none⟩ = some (.string x) := t2.cell hx0 (by simp); have T2 := Lib.hid t2; clear t2 hM)
    refine hK.out _ _ hx2 (fun hx3 => ?_)
    rename_i hwant
    clear K hK hwant
    refine wpAnyH_ready (rs := [4]) (by kernel_rfl) (by simp) ?_
    refine AllReadyH.cons rfl (fun K hK => ?_) AllReadyH.nil
    go_wp2
    refine hK.out _ _ hx2 (fun hx4 => ?_)
    rename_i hwant
    clear K hK hwant
    refine wpAnyH_take (i := 5) (v := .tuple #[.int .i64 dv, .bool false]) rfl (by kernel_rfl) (by kernel_rfl) (by kernel_rfl) (fun _ _ _ h => h) (Or.inl ⟨by rfl, by intro w hSw; (try dsimp only at hSw); go_simp; try (intro h9; exact absurd h9 (by omega))⟩) (by assumption) ?_
    change wpAnyH _ _ _ _ _ _ _ (Act.put _ (some 38) _) _
    refine wpAnyH_take (i := 6) (v := .int .i64 dv) rfl (by kernel_rfl) (by kernel_rfl) (by kernel_rfl) (fun _ _ _ h => h) (Or.inl ⟨by rfl, by intro w hSw; (try dsimp only at hSw); go_simp; try (intro h9; exact absurd h9 (by omega))⟩) (by assumption) ?_
    change wpAnyH _ _ _ _ _ _ _ (Act.put _ (some 44) _) _
    refine wpAnyH_take (i := 7) (v := .bool false) rfl (by kernel_rfl) (by kernel_rfl) (by kernel_rfl) (fun _ _ _ h => h) (Or.inl ⟨by rfl, by intro w hSw; (try dsimp only at hSw); go_simp; try (intro h9; exact absurd h9 (by omega))⟩) (by assumption) ?_
    change wpAnyH _ _ _ _ _ _ _ (Act.put _ (some 45) _) _
    refine wpAnyH_take (i := 8) (v := .int .i64 dv) rfl (by kernel_rfl) (by kernel_rfl) (by kernel_rfl) (fun _ _ _ h => h) (Or.inl ⟨by rfl, by intro w hSw; (try dsimp only at hSw); go_simp; try (intro h9; exact absurd h9 (by omega))⟩) (by assumption) ?_
    change wpAnyH _ _ _ _ _ _ _ (Act.put _ (some 4) _) _
    refine wpAnyH_take (i := 9) (v := .bool false) rfl (by kernel_rfl) (by kernel_rfl) (by kernel_rfl) (fun _ _ _ h => h) (Or.inl ⟨by rfl, by intro w hSw; (try dsimp only at hSw); go_simp; try (intro h9; exact absurd h9 (by omega))⟩) (by assumption) ?_
    change wpAnyH _ _ _ _ _ _ _ (Act.put _ (some 5) _) _
    refine wpAnyH_done (by kernel_rfl) ?_ _
    simp only [Act.put, List.setIfInBounds_toArray, List.set_cons_zero, List.set_cons_succ]
    clear hHeld hx0 hx2 hx3 hx4 hk2
    have HF := Lib.hid (HB1.out.drew.trans ((below_of_touch T2.out).mono HB1.out.size))
    go_wp2
    go_ret
    have hv2 : restF x = 8 := by rw [hv]; simp
    refine ⟨?_, HF.out⟩
    rw [hv2]
    rfl
  | true =>
    go_enter Try.func10, Try.ntmps10
    go_wp2_with (first | (go_at_call 21; refine HW.out.mono ?_; rintro e w1 ⟨v0, rfl, hR, b1⟩; obtain ⟨g, cp, rfl, hcp, hC, hcl⟩ := words_read hR hn; have hx0 := hcl 0 x rfl; have hy0 := hcl 1 y rfl; have HCL := Lib.hid hcl; have HCC := Lib.hid hC; have HB1 := Lib.hid b1; clear hcl hC hR b1))
    refine wp_region_held (S := fun w' => w'.cell? ⟨g, 0, none⟩ = some (.string x)) (by kernel_rfl) ?_
    have hHeld : w1.drew.cell? ⟨g, 0, none⟩ = some (.string x) := hx0
    change wpAnyH _ _ _ _ _ 10 _ _ w1.drew
    refine wpAnyH_take (i := 1) (v := .slice (some ⟨g, 0, none⟩) (r.length + 1 + 1) cp) rfl (by kernel_rfl) (by kernel_rfl) (by kernel_rfl) (fun _ _ _ h => h) (Or.inl ⟨by rfl, by intro w hSw; (try dsimp only at hSw); go_simp; try (intro h9; exact absurd h9 (by omega))⟩) (by assumption) ?_
    change wpAnyH _ _ _ _ _ _ _ (Act.put _ (some 40) _) _
    refine wpAnyH_take (i := 2) (v := .pointer (some ⟨g, 0, none⟩)) rfl (by kernel_rfl) (by kernel_rfl) (by kernel_rfl) (fun _ _ _ h => h) (Or.inl ⟨by rfl, by intro w hSw; (try dsimp only at hSw); go_simp; try (intro h9; exact absurd h9 (by omega))⟩) (by assumption) ?_
    change wpAnyH _ _ _ _ _ _ _ (Act.put _ (some 41) _) _
    refine wpAnyH_take (i := 3) (v := .string x) rfl (by kernel_rfl) (by kernel_rfl) (by kernel_rfl) (fun _ _ _ h => h) (Or.inl ⟨by rfl, by intro w hSw; (try dsimp only at hSw); go_simp; try (intro h9; exact absurd h9 (by omega))⟩) (by assumption) ?_
    change wpAnyH _ _ _ _ _ _ _ (Act.put _ (some 42) _) _
    simp only [Act.put, List.setIfInBounds_toArray, List.set_cons_zero, List.set_cons_succ]
    refine wpAnyH_ready (rs := [0]) (by kernel_rfl) (by simp) ?_
    refine AllReadyH.cons rfl (fun K hK => ?_) AllReadyH.nil
    go_wp2_with (go_at_call 24; refine (firsts_any _).mono ?_; rintro e w2 ⟨b, rfl, hM, t2⟩; have hk2 := LK.out w2 b hM; have hx2 : w2.cell? ⟨g, 0, none⟩ = some (.string x) := t2.cell hx0 (by simp); have T2 := Lib.hid t2; clear t2 hM)
    refine hK.out _ _ hx2 (fun hx3 => ?_)
    rename_i hwant
    clear K hK hwant
    refine wpAnyH_ready (rs := [4]) (by kernel_rfl) (by simp) ?_
    refine AllReadyH.cons rfl (fun K hK => ?_) AllReadyH.nil
    go_wp2
    refine hK.out _ _ hx2 (fun hx4 => ?_)
    rename_i hwant
    clear K hK hwant
    refine wpAnyH_take (i := 5) (v := .tuple #[.int .i64 dv, .bool true]) rfl (by kernel_rfl) (by kernel_rfl) (by kernel_rfl) (fun _ _ _ h => h) (Or.inl ⟨by rfl, by intro w hSw; (try dsimp only at hSw); go_simp; try (intro h9; exact absurd h9 (by omega))⟩) (by assumption) ?_
    change wpAnyH _ _ _ _ _ _ _ (Act.put _ (some 38) _) _
    refine wpAnyH_take (i := 6) (v := .int .i64 dv) rfl (by kernel_rfl) (by kernel_rfl) (by kernel_rfl) (fun _ _ _ h => h) (Or.inl ⟨by rfl, by intro w hSw; (try dsimp only at hSw); go_simp; try (intro h9; exact absurd h9 (by omega))⟩) (by assumption) ?_
    change wpAnyH _ _ _ _ _ _ _ (Act.put _ (some 44) _) _
    refine wpAnyH_take (i := 7) (v := .bool true) rfl (by kernel_rfl) (by kernel_rfl) (by kernel_rfl) (fun _ _ _ h => h) (Or.inl ⟨by rfl, by intro w hSw; (try dsimp only at hSw); go_simp; try (intro h9; exact absurd h9 (by omega))⟩) (by assumption) ?_
    change wpAnyH _ _ _ _ _ _ _ (Act.put _ (some 45) _) _
    refine wpAnyH_take (i := 8) (v := .int .i64 dv) rfl (by kernel_rfl) (by kernel_rfl) (by kernel_rfl) (fun _ _ _ h => h) (Or.inl ⟨by rfl, by intro w hSw; (try dsimp only at hSw); go_simp; try (intro h9; exact absurd h9 (by omega))⟩) (by assumption) ?_
    change wpAnyH _ _ _ _ _ _ _ (Act.put _ (some 4) _) _
    refine wpAnyH_take (i := 9) (v := .bool true) rfl (by kernel_rfl) (by kernel_rfl) (by kernel_rfl) (fun _ _ _ h => h) (Or.inl ⟨by rfl, by intro w hSw; (try dsimp only at hSw); go_simp; try (intro h9; exact absurd h9 (by omega))⟩) (by assumption) ?_
    change wpAnyH _ _ _ _ _ _ _ (Act.put _ (some 5) _) _
    refine wpAnyH_done (by kernel_rfl) ?_ _
    simp only [Act.put, List.setIfInBounds_toArray, List.set_cons_zero, List.set_cons_succ]
    clear hHeld hx0 hx2 hx3 hx4 hk2
    have HF := Lib.hid (HB1.out.drew.trans ((below_of_touch T2.out).mono HB1.out.size))
    go_wp2
    go_ret
    have hv2 : restF x = dv := by rw [hv]; simp
    refine ⟨?_, HF.out⟩
    rw [hv2]
    rfl
set_option maxHeartbeats 2000000 in
theorem of_roll1 (A : Option Addr) (c : Nat) (l : List S33) (w : World) (x : ByteArray) (r : List ByteArray) (hne : 0 < l.length)
    (HW : Hid (Calls Try.prog 21 #[.slice A l.length c] w fun e w' => ∃ v0_ : Value, e = .returned v0_ ∧ Kd.R Kd.string 9 w' w.heap.size (fun _ => True) v0_ (x :: r) ∧ Below w.heap.size w w'))
    (h1 : (x.toList == wSel) = false) (h2 : (x.toList == wVal) = false) (h3 : (x.toList == wTab) = false) (h4 : (x.toList == wWith) = false) (h5 : (x.toList == wStart) = false) (h6 : (x.toList == wRoll) = true) (HI : Hid (∀ w1 g cp, Kd.C Kd.string w1 (some ⟨g, 0, none⟩) (x :: r).length (x :: r) → (x :: r).length ≤ cp → Calls Try.prog 23 #[.string bTo, .slice (some ⟨g, 0, none⟩) (x :: r).length cp] w1 fun e w' => e = .returned (.bool false) ∧ Drawn0 w1 w')) :
    Calls Try.prog 10 #[.slice A l.length c] w fun e w' => e = .returned (.int .i64 (5)) ∧ Below w.heap.size w w' := by
  unfold wSel at h1
  unfold wVal at h2
  unfold wTab at h3
  unfold wWith at h4
  unfold wStart at h5
  unfold wRoll at h6
  have hn : 0 < (x :: r).length := by simp
  have hz : ((l.length : Int) == 0) = false := by rw [beq_eq_false_iff_ne]; omega
  have hz2 : l.length ≠ 0 := by omega
  go_enter Try.func10, Try.ntmps10
  go_wp2_with (first | (go_at_call 21; refine HW.out.mono ?_; rintro e w1 ⟨v0, rfl, hR, b1⟩; obtain ⟨g, cp, rfl, hcp, hC, hcl⟩ := words_read hR hn; have hx0 := hcl 0 x rfl; have HCL := Lib.hid hcl; have HCC := Lib.hid hC; have HB1 := Lib.hid b1; clear hcl hC hR b1) | (go_at_call 23; refine (HI.out _ _ _ HCC.out hcp).mono ?_; rintro e w3 ⟨rfl, b3⟩; have hx9 := cell_b b3.below hx0; have HB3 := Lib.hid (HB1.out.trans (b3.below.mono HB1.out.size)); clear b3))
  go_ret
  exact ⟨rfl, HB3.out⟩
set_option maxHeartbeats 2000000 in
theorem of_roll2 (A : Option Addr) (c : Nat) (l : List S33) (w : World) (x : ByteArray) (r : List ByteArray) (hne : 0 < l.length)
    (HW : Hid (Calls Try.prog 21 #[.slice A l.length c] w fun e w' => ∃ v0_ : Value, e = .returned v0_ ∧ Kd.R Kd.string 9 w' w.heap.size (fun _ => True) v0_ (x :: r) ∧ Below w.heap.size w w'))
    (h1 : (x.toList == wSel) = false) (h2 : (x.toList == wVal) = false) (h3 : (x.toList == wTab) = false) (h4 : (x.toList == wWith) = false) (h5 : (x.toList == wStart) = false) (h6 : (x.toList == wRoll) = true) (HI : Hid (∀ w1 g cp, Kd.C Kd.string w1 (some ⟨g, 0, none⟩) (x :: r).length (x :: r) → (x :: r).length ≤ cp → Calls Try.prog 23 #[.string bTo, .slice (some ⟨g, 0, none⟩) (x :: r).length cp] w1 fun e w' => e = .returned (.bool true) ∧ Drawn0 w1 w')) (dv : Int) (ov : Bool) (hv : restF x = if ov then dv else 8) (LK : Hid (∀ w b, MapT w b strV goodS fstF → (Instr.lookup 39 (.map (some b)) (.string x) true).run Try.prog w = .ok (.tuple #[.int .i64 dv, .bool ov]) w)) :
    Calls Try.prog 10 #[.slice A l.length c] w fun e w' => e = .returned (.int .i64 (restF x)) ∧ Below w.heap.size w w' := by
  unfold wSel at h1
  unfold wVal at h2
  unfold wTab at h3
  unfold wWith at h4
  unfold wStart at h5
  unfold wRoll at h6
  have hn : 0 < (x :: r).length := by simp
  have hz : ((l.length : Int) == 0) = false := by rw [beq_eq_false_iff_ne]; omega
  have hz2 : l.length ≠ 0 := by omega
  cases ov with
  | false =>
    go_enter Try.func10, Try.ntmps10
    go_wp2_with (first | (go_at_call 21; refine HW.out.mono ?_; rintro e w1 ⟨v0, rfl, hR, b1⟩; obtain ⟨g, cp, rfl, hcp, hC, hcl⟩ := words_read hR hn; have hx0 := hcl 0 x rfl; have HCL := Lib.hid hcl; have HCC := Lib.hid hC; have HB1 := Lib.hid b1; clear hcl hC hR b1) | (go_at_call 23; refine (HI.out _ _ _ HCC.out hcp).mono ?_; rintro e w3 ⟨rfl, b3⟩; have hx9 := cell_b b3.below hx0; have HB3 := Lib.hid (HB1.out.trans (b3.below.mono HB1.out.size)); clear b3))
    refine wp_region_held (S := fun w' => w'.cell? ⟨g, 0, none⟩ = some (.string x)) (by kernel_rfl) ?_
    have hHeld : w3.drew.cell? ⟨g, 0, none⟩ = some (.string x) := hx9
    change wpAnyH _ _ _ _ _ 10 _ _ w3.drew
    refine wpAnyH_take (i := 1) (v := .slice (some ⟨g, 0, none⟩) (r.length + 1) cp) rfl (by kernel_rfl) (by kernel_rfl) (by kernel_rfl) (fun _ _ _ h => h) (Or.inl ⟨by rfl, by intro w hSw; (try dsimp only at hSw); go_simp; try (intro h9; exact absurd h9 (by omega))⟩) (by assumption) ?_
    change wpAnyH _ _ _ _ _ _ _ (Act.put _ (some 40) _) _
    refine wpAnyH_take (i := 2) (v := .pointer (some ⟨g, 0, none⟩)) rfl (by kernel_rfl) (by kernel_rfl) (by kernel_rfl) (fun _ _ _ h => h) (Or.inl ⟨by rfl, by intro w hSw; (try dsimp only at hSw); go_simp; try (intro h9; exact absurd h9 (by omega))⟩) (by assumption) ?_
    change wpAnyH _ _ _ _ _ _ _ (Act.put _ (some 41) _) _
    refine wpAnyH_take (i := 3) (v := .string x) rfl (by kernel_rfl) (by kernel_rfl) (by kernel_rfl) (fun _ _ _ h => h) (Or.inl ⟨by rfl, by intro w hSw; (try dsimp only at hSw); go_simp; try (intro h9; exact absurd h9 (by omega))⟩) (by assumption) ?_
    change wpAnyH _ _ _ _ _ _ _ (Act.put _ (some 42) _) _
    simp only [Act.put, List.setIfInBounds_toArray, List.set_cons_zero, List.set_cons_succ]
    refine wpAnyH_ready (rs := [0]) (by kernel_rfl) (by simp) ?_
    refine AllReadyH.cons rfl (fun K hK => ?_) AllReadyH.nil
    go_wp2_with (go_at_call 24; refine (firsts_any _).mono ?_; rintro e w2 ⟨b, rfl, hM, t2⟩; have hk2 := LK.out w2 b hM; have hx2 : w2.cell? ⟨g, 0, none⟩ = some (.string x) := t2.cell hx9 (by simp); have T2 := Lib.hid t2; clear t2 hM)
    refine hK.out _ _ hx2 (fun hx3 => ?_)
    rename_i hwant
    clear K hK hwant
    refine wpAnyH_ready (rs := [4]) (by kernel_rfl) (by simp) ?_
    refine AllReadyH.cons rfl (fun K hK => ?_) AllReadyH.nil
    go_wp2
    refine hK.out _ _ hx2 (fun hx4 => ?_)
    rename_i hwant
    clear K hK hwant
    refine wpAnyH_take (i := 5) (v := .tuple #[.int .i64 dv, .bool false]) rfl (by kernel_rfl) (by kernel_rfl) (by kernel_rfl) (fun _ _ _ h => h) (Or.inl ⟨by rfl, by intro w hSw; (try dsimp only at hSw); go_simp; try (intro h9; exact absurd h9 (by omega))⟩) (by assumption) ?_
    change wpAnyH _ _ _ _ _ _ _ (Act.put _ (some 38) _) _
    refine wpAnyH_take (i := 6) (v := .int .i64 dv) rfl (by kernel_rfl) (by kernel_rfl) (by kernel_rfl) (fun _ _ _ h => h) (Or.inl ⟨by rfl, by intro w hSw; (try dsimp only at hSw); go_simp; try (intro h9; exact absurd h9 (by omega))⟩) (by assumption) ?_
    change wpAnyH _ _ _ _ _ _ _ (Act.put _ (some 44) _) _
    refine wpAnyH_take (i := 7) (v := .bool false) rfl (by kernel_rfl) (by kernel_rfl) (by kernel_rfl) (fun _ _ _ h => h) (Or.inl ⟨by rfl, by intro w hSw; (try dsimp only at hSw); go_simp; try (intro h9; exact absurd h9 (by omega))⟩) (by assumption) ?_
    change wpAnyH _ _ _ _ _ _ _ (Act.put _ (some 45) _) _
    refine wpAnyH_take (i := 8) (v := .int .i64 dv) rfl (by kernel_rfl) (by kernel_rfl) (by kernel_rfl) (fun _ _ _ h => h) (Or.inl ⟨by rfl, by intro w hSw; (try dsimp only at hSw); go_simp; try (intro h9; exact absurd h9 (by omega))⟩) (by assumption) ?_
    change wpAnyH _ _ _ _ _ _ _ (Act.put _ (some 4) _) _
    refine wpAnyH_take (i := 9) (v := .bool false) rfl (by kernel_rfl) (by kernel_rfl) (by kernel_rfl) (fun _ _ _ h => h) (Or.inl ⟨by rfl, by intro w hSw; (try dsimp only at hSw); go_simp; try (intro h9; exact absurd h9 (by omega))⟩) (by assumption) ?_
    change wpAnyH _ _ _ _ _ _ _ (Act.put _ (some 5) _) _
    refine wpAnyH_done (by kernel_rfl) ?_ _
    simp only [Act.put, List.setIfInBounds_toArray, List.set_cons_zero, List.set_cons_succ]
    clear hHeld hx9 hx2 hx3 hx4 hk2
    have HF := Lib.hid (HB3.out.drew.trans ((below_of_touch T2.out).mono HB3.out.size))
    go_wp2
    go_ret
    have hv2 : restF x = 8 := by rw [hv]; simp
    refine ⟨?_, HF.out⟩
    rw [hv2]
    rfl
  | true =>
    go_enter Try.func10, Try.ntmps10
    go_wp2_with (first | (go_at_call 21; refine HW.out.mono ?_; rintro e w1 ⟨v0, rfl, hR, b1⟩; obtain ⟨g, cp, rfl, hcp, hC, hcl⟩ := words_read hR hn; have hx0 := hcl 0 x rfl; have HCL := Lib.hid hcl; have HCC := Lib.hid hC; have HB1 := Lib.hid b1; clear hcl hC hR b1) | (go_at_call 23; refine (HI.out _ _ _ HCC.out hcp).mono ?_; rintro e w3 ⟨rfl, b3⟩; have hx9 := cell_b b3.below hx0; have HB3 := Lib.hid (HB1.out.trans (b3.below.mono HB1.out.size)); clear b3))
    refine wp_region_held (S := fun w' => w'.cell? ⟨g, 0, none⟩ = some (.string x)) (by kernel_rfl) ?_
    have hHeld : w3.drew.cell? ⟨g, 0, none⟩ = some (.string x) := hx9
    change wpAnyH _ _ _ _ _ 10 _ _ w3.drew
    refine wpAnyH_take (i := 1) (v := .slice (some ⟨g, 0, none⟩) (r.length + 1) cp) rfl (by kernel_rfl) (by kernel_rfl) (by kernel_rfl) (fun _ _ _ h => h) (Or.inl ⟨by rfl, by intro w hSw; (try dsimp only at hSw); go_simp; try (intro h9; exact absurd h9 (by omega))⟩) (by assumption) ?_
    change wpAnyH _ _ _ _ _ _ _ (Act.put _ (some 40) _) _
    refine wpAnyH_take (i := 2) (v := .pointer (some ⟨g, 0, none⟩)) rfl (by kernel_rfl) (by kernel_rfl) (by kernel_rfl) (fun _ _ _ h => h) (Or.inl ⟨by rfl, by intro w hSw; (try dsimp only at hSw); go_simp; try (intro h9; exact absurd h9 (by omega))⟩) (by assumption) ?_
    change wpAnyH _ _ _ _ _ _ _ (Act.put _ (some 41) _) _
    refine wpAnyH_take (i := 3) (v := .string x) rfl (by kernel_rfl) (by kernel_rfl) (by kernel_rfl) (fun _ _ _ h => h) (Or.inl ⟨by rfl, by intro w hSw; (try dsimp only at hSw); go_simp; try (intro h9; exact absurd h9 (by omega))⟩) (by assumption) ?_
    change wpAnyH _ _ _ _ _ _ _ (Act.put _ (some 42) _) _
    simp only [Act.put, List.setIfInBounds_toArray, List.set_cons_zero, List.set_cons_succ]
    refine wpAnyH_ready (rs := [0]) (by kernel_rfl) (by simp) ?_
    refine AllReadyH.cons rfl (fun K hK => ?_) AllReadyH.nil
    go_wp2_with (go_at_call 24; refine (firsts_any _).mono ?_; rintro e w2 ⟨b, rfl, hM, t2⟩; have hk2 := LK.out w2 b hM; have hx2 : w2.cell? ⟨g, 0, none⟩ = some (.string x) := t2.cell hx9 (by simp); have T2 := Lib.hid t2; clear t2 hM)
    refine hK.out _ _ hx2 (fun hx3 => ?_)
    rename_i hwant
    clear K hK hwant
    refine wpAnyH_ready (rs := [4]) (by kernel_rfl) (by simp) ?_
    refine AllReadyH.cons rfl (fun K hK => ?_) AllReadyH.nil
    go_wp2
    refine hK.out _ _ hx2 (fun hx4 => ?_)
    rename_i hwant
    clear K hK hwant
    refine wpAnyH_take (i := 5) (v := .tuple #[.int .i64 dv, .bool true]) rfl (by kernel_rfl) (by kernel_rfl) (by kernel_rfl) (fun _ _ _ h => h) (Or.inl ⟨by rfl, by intro w hSw; (try dsimp only at hSw); go_simp; try (intro h9; exact absurd h9 (by omega))⟩) (by assumption) ?_
    change wpAnyH _ _ _ _ _ _ _ (Act.put _ (some 38) _) _
    refine wpAnyH_take (i := 6) (v := .int .i64 dv) rfl (by kernel_rfl) (by kernel_rfl) (by kernel_rfl) (fun _ _ _ h => h) (Or.inl ⟨by rfl, by intro w hSw; (try dsimp only at hSw); go_simp; try (intro h9; exact absurd h9 (by omega))⟩) (by assumption) ?_
    change wpAnyH _ _ _ _ _ _ _ (Act.put _ (some 44) _) _
    refine wpAnyH_take (i := 7) (v := .bool true) rfl (by kernel_rfl) (by kernel_rfl) (by kernel_rfl) (fun _ _ _ h => h) (Or.inl ⟨by rfl, by intro w hSw; (try dsimp only at hSw); go_simp; try (intro h9; exact absurd h9 (by omega))⟩) (by assumption) ?_
    change wpAnyH _ _ _ _ _ _ _ (Act.put _ (some 45) _) _
    refine wpAnyH_take (i := 8) (v := .int .i64 dv) rfl (by kernel_rfl) (by kernel_rfl) (by kernel_rfl) (fun _ _ _ h => h) (Or.inl ⟨by rfl, by intro w hSw; (try dsimp only at hSw); go_simp; try (intro h9; exact absurd h9 (by omega))⟩) (by assumption) ?_
    change wpAnyH _ _ _ _ _ _ _ (Act.put _ (some 4) _) _
    refine wpAnyH_take (i := 9) (v := .bool true) rfl (by kernel_rfl) (by kernel_rfl) (by kernel_rfl) (fun _ _ _ h => h) (Or.inl ⟨by rfl, by intro w hSw; (try dsimp only at hSw); go_simp; try (intro h9; exact absurd h9 (by omega))⟩) (by assumption) ?_
    change wpAnyH _ _ _ _ _ _ _ (Act.put _ (some 5) _) _
    refine wpAnyH_done (by kernel_rfl) ?_ _
    simp only [Act.put, List.setIfInBounds_toArray, List.set_cons_zero, List.set_cons_succ]
    clear hHeld hx9 hx2 hx3 hx4 hk2
    have HF := Lib.hid (HB3.out.drew.trans ((below_of_touch T2.out).mono HB3.out.size))
    go_wp2
    go_ret
    have hv2 : restF x = dv := by rw [hv]; simp
    refine ⟨?_, HF.out⟩
    rw [hv2]
    rfl
set_option maxHeartbeats 2000000 in
theorem of_abort1 (A : Option Addr) (c : Nat) (l : List S33) (w : World) (x : ByteArray) (r : List ByteArray) (hne : 0 < l.length)
    (HW : Hid (Calls Try.prog 21 #[.slice A l.length c] w fun e w' => ∃ v0_ : Value, e = .returned v0_ ∧ Kd.R Kd.string 9 w' w.heap.size (fun _ => True) v0_ (x :: r) ∧ Below w.heap.size w w'))
    (h1 : (x.toList == wSel) = false) (h2 : (x.toList == wVal) = false) (h3 : (x.toList == wTab) = false) (h4 : (x.toList == wWith) = false) (h5 : (x.toList == wStart) = false) (h6 : (x.toList == wRoll) = false) (h7 : (x.toList == wAbort) = true) (HI : Hid (∀ w1 g cp, Kd.C Kd.string w1 (some ⟨g, 0, none⟩) (x :: r).length (x :: r) → (x :: r).length ≤ cp → Calls Try.prog 23 #[.string bTo, .slice (some ⟨g, 0, none⟩) (x :: r).length cp] w1 fun e w' => e = .returned (.bool false) ∧ Drawn0 w1 w')) :
    Calls Try.prog 10 #[.slice A l.length c] w fun e w' => e = .returned (.int .i64 (5)) ∧ Below w.heap.size w w' := by
  unfold wSel at h1
  unfold wVal at h2
  unfold wTab at h3
  unfold wWith at h4
  unfold wStart at h5
  unfold wRoll at h6
  unfold wAbort at h7
  have hn : 0 < (x :: r).length := by simp
  have hz : ((l.length : Int) == 0) = false := by rw [beq_eq_false_iff_ne]; omega
  have hz2 : l.length ≠ 0 := by omega
  go_enter Try.func10, Try.ntmps10
  go_wp2_with (first | (go_at_call 21; refine HW.out.mono ?_; rintro e w1 ⟨v0, rfl, hR, b1⟩; obtain ⟨g, cp, rfl, hcp, hC, hcl⟩ := words_read hR hn; have hx0 := hcl 0 x rfl; have HCL := Lib.hid hcl; have HCC := Lib.hid hC; have HB1 := Lib.hid b1; clear hcl hC hR b1) | (go_at_call 23; refine (HI.out _ _ _ HCC.out hcp).mono ?_; rintro e w3 ⟨rfl, b3⟩; have hx9 := cell_b b3.below hx0; have HB3 := Lib.hid (HB1.out.trans (b3.below.mono HB1.out.size)); clear b3))
  go_ret
  exact ⟨rfl, HB3.out⟩
set_option maxHeartbeats 2000000 in
theorem of_abort2 (A : Option Addr) (c : Nat) (l : List S33) (w : World) (x : ByteArray) (r : List ByteArray) (hne : 0 < l.length)
    (HW : Hid (Calls Try.prog 21 #[.slice A l.length c] w fun e w' => ∃ v0_ : Value, e = .returned v0_ ∧ Kd.R Kd.string 9 w' w.heap.size (fun _ => True) v0_ (x :: r) ∧ Below w.heap.size w w'))
    (h1 : (x.toList == wSel) = false) (h2 : (x.toList == wVal) = false) (h3 : (x.toList == wTab) = false) (h4 : (x.toList == wWith) = false) (h5 : (x.toList == wStart) = false) (h6 : (x.toList == wRoll) = false) (h7 : (x.toList == wAbort) = true) (HI : Hid (∀ w1 g cp, Kd.C Kd.string w1 (some ⟨g, 0, none⟩) (x :: r).length (x :: r) → (x :: r).length ≤ cp → Calls Try.prog 23 #[.string bTo, .slice (some ⟨g, 0, none⟩) (x :: r).length cp] w1 fun e w' => e = .returned (.bool true) ∧ Drawn0 w1 w')) (dv : Int) (ov : Bool) (hv : restF x = if ov then dv else 8) (LK : Hid (∀ w b, MapT w b strV goodS fstF → (Instr.lookup 39 (.map (some b)) (.string x) true).run Try.prog w = .ok (.tuple #[.int .i64 dv, .bool ov]) w)) :
    Calls Try.prog 10 #[.slice A l.length c] w fun e w' => e = .returned (.int .i64 (restF x)) ∧ Below w.heap.size w w' := by
  unfold wSel at h1
  unfold wVal at h2
  unfold wTab at h3
  unfold wWith at h4
  unfold wStart at h5
  unfold wRoll at h6
  unfold wAbort at h7
  have hn : 0 < (x :: r).length := by simp
  have hz : ((l.length : Int) == 0) = false := by rw [beq_eq_false_iff_ne]; omega
  have hz2 : l.length ≠ 0 := by omega
  cases ov with
  | false =>
    go_enter Try.func10, Try.ntmps10
    go_wp2_with (first | (go_at_call 21; refine HW.out.mono ?_; rintro e w1 ⟨v0, rfl, hR, b1⟩; obtain ⟨g, cp, rfl, hcp, hC, hcl⟩ := words_read hR hn; have hx0 := hcl 0 x rfl; have HCL := Lib.hid hcl; have HCC := Lib.hid hC; have HB1 := Lib.hid b1; clear hcl hC hR b1) | (go_at_call 23; refine (HI.out _ _ _ HCC.out hcp).mono ?_; rintro e w3 ⟨rfl, b3⟩; have hx9 := cell_b b3.below hx0; have HB3 := Lib.hid (HB1.out.trans (b3.below.mono HB1.out.size)); clear b3))
    refine wp_region_held (S := fun w' => w'.cell? ⟨g, 0, none⟩ = some (.string x)) (by kernel_rfl) ?_
    have hHeld : w3.drew.cell? ⟨g, 0, none⟩ = some (.string x) := hx9
    change wpAnyH _ _ _ _ _ 10 _ _ w3.drew
    refine wpAnyH_take (i := 1) (v := .slice (some ⟨g, 0, none⟩) (r.length + 1) cp) rfl (by kernel_rfl) (by kernel_rfl) (by kernel_rfl) (fun _ _ _ h => h) (Or.inl ⟨by rfl, by intro w hSw; (try dsimp only at hSw); go_simp; try (intro h9; exact absurd h9 (by omega))⟩) (by assumption) ?_
    change wpAnyH _ _ _ _ _ _ _ (Act.put _ (some 40) _) _
    refine wpAnyH_take (i := 2) (v := .pointer (some ⟨g, 0, none⟩)) rfl (by kernel_rfl) (by kernel_rfl) (by kernel_rfl) (fun _ _ _ h => h) (Or.inl ⟨by rfl, by intro w hSw; (try dsimp only at hSw); go_simp; try (intro h9; exact absurd h9 (by omega))⟩) (by assumption) ?_
    change wpAnyH _ _ _ _ _ _ _ (Act.put _ (some 41) _) _
    refine wpAnyH_take (i := 3) (v := .string x) rfl (by kernel_rfl) (by kernel_rfl) (by kernel_rfl) (fun _ _ _ h => h) (Or.inl ⟨by rfl, by intro w hSw; (try dsimp only at hSw); go_simp; try (intro h9; exact absurd h9 (by omega))⟩) (by assumption) ?_
    change wpAnyH _ _ _ _ _ _ _ (Act.put _ (some 42) _) _
    simp only [Act.put, List.setIfInBounds_toArray, List.set_cons_zero, List.set_cons_succ]
    refine wpAnyH_ready (rs := [0]) (by kernel_rfl) (by simp) ?_
    refine AllReadyH.cons rfl (fun K hK => ?_) AllReadyH.nil
    go_wp2_with (go_at_call 24; refine (firsts_any _).mono ?_; rintro e w2 ⟨b, rfl, hM, t2⟩; have hk2 := LK.out w2 b hM; have hx2 : w2.cell? ⟨g, 0, none⟩ = some (.string x) := t2.cell hx9 (by simp); have T2 := Lib.hid t2; clear t2 hM)
    refine hK.out _ _ hx2 (fun hx3 => ?_)
    rename_i hwant
    clear K hK hwant
    refine wpAnyH_ready (rs := [4]) (by kernel_rfl) (by simp) ?_
    refine AllReadyH.cons rfl (fun K hK => ?_) AllReadyH.nil
    go_wp2
    refine hK.out _ _ hx2 (fun hx4 => ?_)
    rename_i hwant
    clear K hK hwant
    refine wpAnyH_take (i := 5) (v := .tuple #[.int .i64 dv, .bool false]) rfl (by kernel_rfl) (by kernel_rfl) (by kernel_rfl) (fun _ _ _ h => h) (Or.inl ⟨by rfl, by intro w hSw; (try dsimp only at hSw); go_simp; try (intro h9; exact absurd h9 (by omega))⟩) (by assumption) ?_
    change wpAnyH _ _ _ _ _ _ _ (Act.put _ (some 38) _) _
    refine wpAnyH_take (i := 6) (v := .int .i64 dv) rfl (by kernel_rfl) (by kernel_rfl) (by kernel_rfl) (fun _ _ _ h => h) (Or.inl ⟨by rfl, by intro w hSw; (try dsimp only at hSw); go_simp; try (intro h9; exact absurd h9 (by omega))⟩) (by assumption) ?_
    change wpAnyH _ _ _ _ _ _ _ (Act.put _ (some 44) _) _
    refine wpAnyH_take (i := 7) (v := .bool false) rfl (by kernel_rfl) (by kernel_rfl) (by kernel_rfl) (fun _ _ _ h => h) (Or.inl ⟨by rfl, by intro w hSw; (try dsimp only at hSw); go_simp; try (intro h9; exact absurd h9 (by omega))⟩) (by assumption) ?_
    change wpAnyH _ _ _ _ _ _ _ (Act.put _ (some 45) _) _
    refine wpAnyH_take (i := 8) (v := .int .i64 dv) rfl (by kernel_rfl) (by kernel_rfl) (by kernel_rfl) (fun _ _ _ h => h) (Or.inl ⟨by rfl, by intro w hSw; (try dsimp only at hSw); go_simp; try (intro h9; exact absurd h9 (by omega))⟩) (by assumption) ?_
    change wpAnyH _ _ _ _ _ _ _ (Act.put _ (some 4) _) _
    refine wpAnyH_take (i := 9) (v := .bool false) rfl (by kernel_rfl) (by kernel_rfl) (by kernel_rfl) (fun _ _ _ h => h) (Or.inl ⟨by rfl, by intro w hSw; (try dsimp only at hSw); go_simp; try (intro h9; exact absurd h9 (by omega))⟩) (by assumption) ?_
    change wpAnyH _ _ _ _ _ _ _ (Act.put _ (some 5) _) _
    refine wpAnyH_done (by kernel_rfl) ?_ _
    simp only [Act.put, List.setIfInBounds_toArray, List.set_cons_zero, List.set_cons_succ]
    clear hHeld hx9 hx2 hx3 hx4 hk2
    have HF := Lib.hid (HB3.out.drew.trans ((below_of_touch T2.out).mono HB3.out.size))
    go_wp2
    go_ret
    have hv2 : restF x = 8 := by rw [hv]; simp
    refine ⟨?_, HF.out⟩
    rw [hv2]
    rfl
  | true =>
    go_enter Try.func10, Try.ntmps10
    go_wp2_with (first | (go_at_call 21; refine HW.out.mono ?_; rintro e w1 ⟨v0, rfl, hR, b1⟩; obtain ⟨g, cp, rfl, hcp, hC, hcl⟩ := words_read hR hn; have hx0 := hcl 0 x rfl; have HCL := Lib.hid hcl; have HCC := Lib.hid hC; have HB1 := Lib.hid b1; clear hcl hC hR b1) | (go_at_call 23; refine (HI.out _ _ _ HCC.out hcp).mono ?_; rintro e w3 ⟨rfl, b3⟩; have hx9 := cell_b b3.below hx0; have HB3 := Lib.hid (HB1.out.trans (b3.below.mono HB1.out.size)); clear b3))
    refine wp_region_held (S := fun w' => w'.cell? ⟨g, 0, none⟩ = some (.string x)) (by kernel_rfl) ?_
    have hHeld : w3.drew.cell? ⟨g, 0, none⟩ = some (.string x) := hx9
    change wpAnyH _ _ _ _ _ 10 _ _ w3.drew
    refine wpAnyH_take (i := 1) (v := .slice (some ⟨g, 0, none⟩) (r.length + 1) cp) rfl (by kernel_rfl) (by kernel_rfl) (by kernel_rfl) (fun _ _ _ h => h) (Or.inl ⟨by rfl, by intro w hSw; (try dsimp only at hSw); go_simp; try (intro h9; exact absurd h9 (by omega))⟩) (by assumption) ?_
    change wpAnyH _ _ _ _ _ _ _ (Act.put _ (some 40) _) _
    refine wpAnyH_take (i := 2) (v := .pointer (some ⟨g, 0, none⟩)) rfl (by kernel_rfl) (by kernel_rfl) (by kernel_rfl) (fun _ _ _ h => h) (Or.inl ⟨by rfl, by intro w hSw; (try dsimp only at hSw); go_simp; try (intro h9; exact absurd h9 (by omega))⟩) (by assumption) ?_
    change wpAnyH _ _ _ _ _ _ _ (Act.put _ (some 41) _) _
    refine wpAnyH_take (i := 3) (v := .string x) rfl (by kernel_rfl) (by kernel_rfl) (by kernel_rfl) (fun _ _ _ h => h) (Or.inl ⟨by rfl, by intro w hSw; (try dsimp only at hSw); go_simp; try (intro h9; exact absurd h9 (by omega))⟩) (by assumption) ?_
    change wpAnyH _ _ _ _ _ _ _ (Act.put _ (some 42) _) _
    simp only [Act.put, List.setIfInBounds_toArray, List.set_cons_zero, List.set_cons_succ]
    refine wpAnyH_ready (rs := [0]) (by kernel_rfl) (by simp) ?_
    refine AllReadyH.cons rfl (fun K hK => ?_) AllReadyH.nil
    go_wp2_with (go_at_call 24; refine (firsts_any _).mono ?_; rintro e w2 ⟨b, rfl, hM, t2⟩; have hk2 := LK.out w2 b hM; have hx2 : w2.cell? ⟨g, 0, none⟩ = some (.string x) := t2.cell hx9 (by simp); have T2 := Lib.hid t2; clear t2 hM)
    refine hK.out _ _ hx2 (fun hx3 => ?_)
    rename_i hwant
    clear K hK hwant
    refine wpAnyH_ready (rs := [4]) (by kernel_rfl) (by simp) ?_
    refine AllReadyH.cons rfl (fun K hK => ?_) AllReadyH.nil
    go_wp2
    refine hK.out _ _ hx2 (fun hx4 => ?_)
    rename_i hwant
    clear K hK hwant
    refine wpAnyH_take (i := 5) (v := .tuple #[.int .i64 dv, .bool true]) rfl (by kernel_rfl) (by kernel_rfl) (by kernel_rfl) (fun _ _ _ h => h) (Or.inl ⟨by rfl, by intro w hSw; (try dsimp only at hSw); go_simp; try (intro h9; exact absurd h9 (by omega))⟩) (by assumption) ?_
    change wpAnyH _ _ _ _ _ _ _ (Act.put _ (some 38) _) _
    refine wpAnyH_take (i := 6) (v := .int .i64 dv) rfl (by kernel_rfl) (by kernel_rfl) (by kernel_rfl) (fun _ _ _ h => h) (Or.inl ⟨by rfl, by intro w hSw; (try dsimp only at hSw); go_simp; try (intro h9; exact absurd h9 (by omega))⟩) (by assumption) ?_
    change wpAnyH _ _ _ _ _ _ _ (Act.put _ (some 44) _) _
    refine wpAnyH_take (i := 7) (v := .bool true) rfl (by kernel_rfl) (by kernel_rfl) (by kernel_rfl) (fun _ _ _ h => h) (Or.inl ⟨by rfl, by intro w hSw; (try dsimp only at hSw); go_simp; try (intro h9; exact absurd h9 (by omega))⟩) (by assumption) ?_
    change wpAnyH _ _ _ _ _ _ _ (Act.put _ (some 45) _) _
    refine wpAnyH_take (i := 8) (v := .int .i64 dv) rfl (by kernel_rfl) (by kernel_rfl) (by kernel_rfl) (fun _ _ _ h => h) (Or.inl ⟨by rfl, by intro w hSw; (try dsimp only at hSw); go_simp; try (intro h9; exact absurd h9 (by omega))⟩) (by assumption) ?_
    change wpAnyH _ _ _ _ _ _ _ (Act.put _ (some 4) _) _
    refine wpAnyH_take (i := 9) (v := .bool true) rfl (by kernel_rfl) (by kernel_rfl) (by kernel_rfl) (fun _ _ _ h => h) (Or.inl ⟨by rfl, by intro w hSw; (try dsimp only at hSw); go_simp; try (intro h9; exact absurd h9 (by omega))⟩) (by assumption) ?_
    change wpAnyH _ _ _ _ _ _ _ (Act.put _ (some 5) _) _
    refine wpAnyH_done (by kernel_rfl) ?_ _
    simp only [Act.put, List.setIfInBounds_toArray, List.set_cons_zero, List.set_cons_succ]
    clear hHeld hx9 hx2 hx3 hx4 hk2
    have HF := Lib.hid (HB3.out.drew.trans ((below_of_touch T2.out).mono HB3.out.size))
    go_wp2
    go_ret
    have hv2 : restF x = dv := by rw [hv]; simp
    refine ⟨?_, HF.out⟩
    rw [hv2]
    rfl

theorem of_empty (A : Option Addr) (c : Nat) (w : World) : Calls Try.prog 10 #[.slice A 0 c] w fun e w' => e = .returned (.int .i64 0) ∧ Below w.heap.size w w' := by
  go_enter Try.func10, Try.ntmps10
  go_wp2
  go_ret
  exact ⟨rfl, Below.refl _ _⟩
theorem restV (x : ByteArray) : restF x = if (lookF x).isSome then (lookF x).getD 0 else 8 := by
  unfold restF
  cases lookF x <;> rfl
theorem Of_any (k : Nat) (A : Option Addr) (c : Nat) (l : List S33) (q : Int) (w : World) (hr : Kd.C k33 w A l.length l) (hc : l.length ≤ c) (h : ofF k l = some q) : Calls Try.prog 10 #[.slice A l.length c] w fun e w' => e = .returned (.int .i64 q) ∧ Below w.heap.size w w' := by
  unfold ofF at h
  split at h
  case isFalse => cases h
  rename_i hl
  split at h
  · rename_i h0
    obtain rfl := Option.some.inj h
    rw [h0]
    exact of_empty A c w
  rename_i h0
  obtain ⟨ws, hws, h⟩ := Option.bind_eq_some_iff.1 h
  split at h
  case isFalse => cases h
  rename_i hwl
  have HW := Lib.hid (class_words.calls k A c l ws w hr hc hws)
  have hne : 0 < l.length := by omega
  cases ws with
  | nil => cases h
  | cons x r =>
    simp only [ofW] at h
    by_cases hgx : x.size ≤ maxLen
    case neg => rw [if_neg hgx] at h; cases h
    rw [if_pos hgx] at h
    have LK : Hid (∀ w b, MapT w b strV goodS fstF → (Instr.lookup 39 (.map (some b)) (.string x) true).run Try.prog w = .ok (.tuple #[.int .i64 ((lookF x).getD 0), .bool (lookF x).isSome]) w) := Lib.hid fun w b hM => look_any w b hM x hgx
    have HQ : qcF k l = some q → Hid (∀ w1, Below w.heap.size w w1 → Calls Try.prog 22 #[.slice A l.length c] w1 fun e w' => e = .returned (.int .i64 q) ∧ Below w1.heap.size w1 w') := fun hq => Lib.hid fun w1 hb => query_any k A c l q w1 (Kd.C_below hr hb) hc hl hq
    have HI : ∀ bi, inF bTo (x :: r) = bi → Hid (∀ w1 g cp, Kd.C Kd.string w1 (some ⟨g, 0, none⟩) (x :: r).length (x :: r) → (x :: r).length ≤ cp → Calls Try.prog 23 #[.string bTo, .slice (some ⟨g, 0, none⟩) (x :: r).length cp] w1 fun e w' => e = .returned (.bool bi) ∧ Drawn0 w1 w') := fun bi hb => Lib.hid fun w1 g cp hC hcp => class_in.calls ((x :: r).length + 1) bTo _ cp (x :: r) bi w1 hC hcp (by rw [in_f bTo (x :: r) _ (by omega) (by omega), hb])
    cases e1 : (x.toList == wSel) with
    | true => exact of_q0 A c l w x r hne HW e1 q (HQ (by simpa [e1] using h))
    | false =>
    cases e2 : (x.toList == wVal) with
    | true => exact of_q1 A c l w x r hne HW e1 e2 q (HQ (by simpa [e1, e2] using h))
    | false =>
    cases e3 : (x.toList == wTab) with
    | true => exact of_q2 A c l w x r hne HW e1 e2 e3 q (HQ (by simpa [e1, e2, e3] using h))
    | false =>
    cases e4 : (x.toList == wWith) with
    | true => exact of_q3 A c l w x r hne HW e1 e2 e3 e4 q (HQ (by simpa [e1, e2, e3, e4] using h))
    | false =>
    cases e5 : (x.toList == wStart) with
    | true =>
      simp only [e1, e2, e3, e4, e5, Bool.or_false, Bool.false_eq_true, if_false, if_true] at h
      match r, h, HW with
      | [], h, HW =>
        obtain rfl := Option.some.inj h
        exact of_start0 A c l w x hne HW e1 e2 e3 e4 e5 _ _ (restV x) LK
      | y :: r, h, HW =>
        cases ey : (y.toList == wTrans) with
        | true =>
          simp only [ey, if_true] at h
          obtain rfl := Option.some.inj h
          exact of_start1 A c l w x y r hne HW e1 e2 e3 e4 e5 ey
        | false =>
          simp only [ey, Bool.false_eq_true, if_false] at h
          obtain rfl := Option.some.inj h
          exact of_start2 A c l w x y r hne HW e1 e2 e3 e4 e5 ey _ _ (restV x) LK
    | false =>
    simp only [e1, e2, e3, e4, e5, Bool.or_false, Bool.false_eq_true, if_false] at h
    cases e6 : (x.toList == wRoll) with
    | true =>
      cases eb : inF bTo (x :: r) with
      | false =>
        simp only [e6, eb, Bool.true_or, Bool.not_false, Bool.and_true, if_true] at h
        obtain rfl := Option.some.inj h
        exact of_roll1 A c l w x r hne HW e1 e2 e3 e4 e5 e6 (HI false eb)
      | true =>
        simp only [e6, eb, Bool.true_or, Bool.not_true, Bool.and_false, Bool.false_eq_true, if_false] at h
        obtain rfl := Option.some.inj h
        exact of_roll2 A c l w x r hne HW e1 e2 e3 e4 e5 e6 (HI true eb) _ _ (restV x) LK
    | false =>
    cases e7 : (x.toList == wAbort) with
    | true =>
      cases eb : inF bTo (x :: r) with
      | false =>
        simp only [e6, e7, eb, Bool.false_or, Bool.not_false, Bool.and_true, if_true] at h
        obtain rfl := Option.some.inj h
        exact of_abort1 A c l w x r hne HW e1 e2 e3 e4 e5 e6 e7 (HI false eb)
      | true =>
        simp only [e6, e7, eb, Bool.false_or, Bool.not_true, Bool.and_false, Bool.false_eq_true, if_false] at h
        obtain rfl := Option.some.inj h
        exact of_abort2 A c l w x r hne HW e1 e2 e3 e4 e5 e6 e7 (HI true eb) _ _ (restV x) LK
    | false =>
      simp only [e6, e7, Bool.false_or, Bool.false_and, Bool.false_eq_true, if_false] at h
      obtain rfl := Option.some.inj h
      exact of_else A c l w x r hne HW e1 e2 e3 e4 e5 e6 e7 _ _ (restV x) LK
/-! ### class_Of: function 10, by hand -/
def class_Of.f (k : Nat) (l0 : List (S33)) : Option (Int) := ofF k l0
theorem class_Of.calls (k : Nat) (A0 : Option Addr) (c0 : Nat) (l0 : List (S33)) (r : Int) (w : World) (hr0 : Kd.C k33 w A0 l0.length l0) (hc0 : l0.length ≤ c0) (h : class_Of.f k l0 = some r) :
    Calls Try.prog 10 #[.slice A0 l0.length c0] w fun e w' => e = .returned (.int .i64 r) ∧ Below w.heap.size w w' := Of_any k A0 c0 l0 r w hr0 hc0 h
theorem class_query.mono (k : Nat) (l : List S33) : LeO (qcF k l) (qcF (k + 1) l) := by
  unfold qcF
  refine LeO.bind (class_writes.mono _ _) (fun x => ?_)
  split
  · exact LeO.refl _
  · exact LeO.bind (class_Locks.mono _ _) (fun _ => LeO.refl _)
theorem class_Of.mono (k : Nat) (l0 : List (S33)) : LeO (class_Of.f k l0) (class_Of.f (k + 1) l0) := by
  unfold class_Of.f ofF
  refine LeO.ite (LeO.ite (LeO.refl _) (LeO.bind (class_words.mono _ _) (fun ws => LeO.ite ?_ (LeO.refl _)))) (LeO.refl _)
  unfold ofW
  split
  · exact LeO.refl _
  · refine LeO.ite (LeO.ite (class_query.mono _ _) (LeO.refl _)) (LeO.refl _)

end Go.Proofs.Ythfchnoebncpfaa.Pu
