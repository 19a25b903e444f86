/- A session's methods: what they tell, and what becomes of it. -/
import Derived.Test.YthommlfigdjehaaSe1
import Derived.Test.YthommlfigdjehaaRow
namespace Go.Proofs.Ythommlfigdjehaa
open Go Go.RowKit Go.Maps

/-- What is asked. -/
structure AskT where
  kind : Int
  name : ByteArray
  portal : ByteArray
  sql : ByteArray
  kA : Option Addr
  kn : Nat
  kc : Nat
  vA : Option Addr
  vn : Nat
  vc : Nat
  aA : Option Addr
  an : Nat
  ac : Nat
  nA : Option Addr
  nn : Nat
  nc : Nat
  fA : Option Addr
  fn : Nat
  fc : Nat
  most : Int
  what : Int
  cancel : Bool
  pid : Int
  secret : Int
  keys : List ByteArray
  vals : List ByteArray
structure GoodA (w : World) (a : AskT) : Prop where
  kind : 0 ≤ a.kind ∧ a.kind ≤ 255
  keys : RowG strC 1 w a.kA a.kn a.keys
  vals : RowG strC 1 w a.vA a.vn a.vals
  few : a.kn ≤ maxLen ∧ a.vn ≤ maxLen
theorem GoodA.kept0 {w w' : World} {a : AskT} (h : GoodA w a) (t : Touch [] w w') : GoodA w' a := ⟨h.kind, h.keys.kept0 t, h.vals.kept0 t, h.few⟩
theorem GoodA.below {w w' : World} {a : AskT} (h : GoodA w a) (t : Below w.heap.size w w') : GoodA w' a := ⟨h.kind, h.keys.below t, h.vals.below t, h.few⟩

theorem beq_yes {a b : ByteArray} (h : a = b) : (a.toList == b.toList) = true := by simp [h]
theorem beq_no {a b : ByteArray} (h : a ≠ b) : (a.toList == b.toList) = false := by
  rw [ByteArray.toList_eq, ByteArray.toList_eq]
  refine Bool.eq_false_iff.2 fun hh => h ?_
  obtain ⟨⟨x⟩⟩ := a
  obtain ⟨⟨y⟩⟩ := b
  simpa using hh

theorem val_any {w : World} {a : AskT} (h : GoodA w a) (key : ByteArray) :
    Calls Try.prog 31 #[.agg #[.int .u8 a.kind, .string a.name, .string a.portal, .string a.sql, .slice a.kA a.kn a.kc, .slice a.vA a.vn a.vc, .slice a.aA a.an a.ac, .slice a.nA a.nn a.nc, .slice a.fA a.fn a.fc, .int .i64 a.most, .int .u8 a.what, .bool a.cancel, .int .i64 a.pid, .int .i64 a.secret], .string key] w fun e w' => e = .returned (.string (valF a.keys a.vals key)) ∧ Touch [] w w' := by
  obtain ⟨kind, name, portal, sql, kA, kn, kc, vA, vn, vc, aA, an, ac, nA, nn, nc, fA, fn, fc, most, what, cancel, pid, secret, keys, vals⟩ := a
  have hg : (w.alloc (.cells #[.int .u8 kind, .string name, .string portal, .string sql, .slice kA kn kc, .slice vA vn vc, .slice aA an ac, .slice nA nn nc, .slice fA fn fc, .int .i64 most, .int .u8 what, .bool cancel, .int .i64 pid, .int .i64 secret] 30)).heap[w.heap.size]? = some (.cells #[.int .u8 kind, .string name, .string portal, .string sql, .slice kA kn kc, .slice vA vn vc, .slice aA an ac, .slice nA nn nc, .slice fA fn fc, .int .i64 most, .int .u8 what, .bool cancel, .int .i64 pid, .int .i64 secret] 30 (0, 0)) := heap_alloc_new w _
  have ta : Touch [] w (w.alloc (.cells #[.int .u8 kind, .string name, .string portal, .string sql, .slice kA kn kc, .slice vA vn vc, .slice aA an ac, .slice nA nn nc, .slice fA fn fc, .int .i64 most, .int .u8 what, .bool cancel, .int .i64 pid, .int .i64 secret] 30)) := (Touch.refl _ _).alloc _
  have hk0 := h.few.1
  have hv0 := h.few.2
  unfold maxLen at hk0 hv0
  have c4 : (w.alloc (.cells #[.int .u8 kind, .string name, .string portal, .string sql, .slice kA kn kc, .slice vA vn vc, .slice aA an ac, .slice nA nn nc, .slice fA fn fc, .int .i64 most, .int .u8 what, .bool cancel, .int .i64 pid, .int .i64 secret] 30)).cell? ⟨w.heap.size, 4, none⟩ = some (.slice kA kn kc) := by rw [cell_of hg]; rfl
  have c5 : (w.alloc (.cells #[.int .u8 kind, .string name, .string portal, .string sql, .slice kA kn kc, .slice vA vn vc, .slice aA an ac, .slice nA nn nc, .slice fA fn fc, .int .i64 most, .int .u8 what, .bool cancel, .int .i64 pid, .int .i64 secret] 30)).cell? ⟨w.heap.size, 5, none⟩ = some (.slice vA vn vc) := by rw [cell_of hg]; rfl
  have K := Lib.hid (And.intro ta (h.kept0 ta))
  clear hg ta h
  dsimp only at *
  go_enter Try.func31, Try.ntmps31
  go_wp2_with fail
  generalize (w.alloc (.cells #[.int .u8 kind, .string name, .string portal, .string sql, .slice kA kn kc, .slice vA vn vc, .slice aA an ac, .slice nA nn nc, .slice fA fn fc, .int .i64 most, .int .u8 what, .bool cancel, .int .i64 pid, .int .i64 secret] 30)) = W at *
  generalize w.heap.size = g at *
  have V0 : Hid (valF keys vals key = valF (keys.drop 0) (vals.drop 0) key) := Lib.hid rfl
  go_loop [10] (fun i => ∃ k : Nat, k ≤ kn ∧ i = .int .i64 k ∧ Hid (valF keys vals key = valF (keys.drop k) (vals.drop k) key)) (fun i => kn - (intOf i).toNat)
  case atStart => exact ⟨0, Nat.zero_le _, rfl, V0⟩
  clear V0
  case round =>
    obtain ⟨k, hk, rfl, V⟩ := hrel
    have hlk := K.out.2.keys.len
    have hlv := K.out.2.vals.len
    dsimp only at hlk hlv
    by_cases hlt : k < kn
    · obtain ⟨g1, o1, s, hA, hg1, hs, _, _, hc⟩ := K.out.2.keys.at hlt
      have d0 := hc 0 (.string s) rfl
      have hi0 : (0 : Int) ≤ k := by omega
      have hi1 : (k : Int) < (kn : Int) := by omega
      subst hA
      simp only [Nat.mul_one, Nat.add_zero] at d0
      have Hs := Lib.hid hs
      clear hc hs hg1
      by_cases he : s = key
      · have e1 := beq_yes he
        by_cases hv : k < vn
        · obtain ⟨g2, o2, v, hB, hg2, hvv, _, _, hc2⟩ := K.out.2.vals.at hv
          have d1 := hc2 0 (.string v) rfl
          have hv1 : (k : Int) < (vn : Int) := by omega
          simp only [Nat.mul_one, Nat.add_zero] at d1
          subst hB
          have HR : Hid (valF keys vals key = v) := Lib.hid (V.out.trans (valF_hit Hs.out hvv he))
          clear hc2 hvv hg2 he hlk hlv
          go_wp2_with fail
          go_ret
          exact ⟨by rw [HR.out]; rfl, K.out.1⟩
        · have hv1 : ¬ (k : Int) < (vn : Int) := by omega
          have V' : Hid (valF keys vals key = valF (keys.drop (k + 1)) (vals.drop (k + 1)) key) := Lib.hid (by rw [V.out, valF_end (.inr (by omega)), valF_end (.inr (by omega))])
          clear he hlk hlv
          go_wp2_with fail
          go_round
          case rel => exact ⟨k + 1, by omega, by go_num, V'⟩
          case measure => simp [intOf]; omega
      · have e1 := beq_no he
        have V' : Hid (valF keys vals key = valF (keys.drop (k + 1)) (vals.drop (k + 1)) key) := Lib.hid (V.out.trans (valF_miss Hs.out he))
        clear he hlk hlv
        go_wp2_with fail
        go_round
        case rel => exact ⟨k + 1, by omega, by go_num, V'⟩
        case measure => simp [intOf]; omega
    · have HR : Hid (valF keys vals key = ⟨#[]⟩) := Lib.hid (V.out.trans (valF_end (.inl (by omega))))
      go_wp2_with fail
      go_ret
      exact ⟨by rw [HR.out]; rfl, K.out.1⟩
end Go.Proofs.Ythommlfigdjehaa
