/- The document's board (ref14): Ask, whatever it comes to. -/
import Derived.Test.YtjmgookpmngmaabFlRef6
namespace Go.Proofs.Ytjmgookpmngmaab
open Go Go.RowKit Go.Maps

theorem rAsk_neg {w : World} {pr : Nat} {F : List Nat} {L : List (Key × List Int)} (_h : RBR w pr F L) (k : Key) (c : Int) (hc : c < 0) :
    Calls Try.prog 17 #[.pointer (some ⟨pr, 0, none⟩), .agg #[.string k.db, .string k.role, .int .i64 k.format, .string k.norm], .int .i64 c] w fun e w' => e = .returned (.tuple #[.bool false, .int .i64 1]) ∧ Touch [] w w' := by
  go_enter Try.func17, Try.ntmps17
  go_wp2
  go_ret2
  exact ⟨rfl, (Touch.refl _ _).alloc _⟩
set_option maxHeartbeats 800000 in
theorem rAsk_in {w : World} {pr : Nat} {F : List Nat} {L : List (Key × List Int)} (h : RBR w pr F L) (k : Key) (c : Int) (hc : ¬ c < 0) (hn : L.length < 1000000) (hl : ∀ p ∈ L, p.2.length < 1000000) {p : Key × List Int} (hp : p ∈ L) (hcp : c ∈ p.2) :
    Calls Try.prog 17 #[.pointer (some ⟨pr, 0, none⟩), .agg #[.string k.db, .string k.role, .int .i64 k.format, .string k.norm], .int .i64 c] w fun e w' => e = .returned (.tuple #[.bool false, .int .i64 10]) ∧ Touch [] w w' := by
  have tb : Touch [] w (boxR w k) := (Touch.refl _ _).alloc _
  have hb := h.kept tb (by simp)
  unfold boxR at tb hb
  have Hp := Lib.hid hp; have Hcp := Lib.hid hcp
  clear hp hcp h
  go_enter Try.func17, Try.ntmps17
  go_wp2_with fail
  generalize w.alloc (.cells #[.string k.db, .string k.role, .int .i64 k.format, .string k.norm] 53) = V at *
  refine (of_any hb c hn hl).mono ?_
  rintro e w1 ⟨r, rfl, hr, rfl⟩
  obtain ⟨j, rfl⟩ : ∃ j : Nat, r = j := by
    rcases hr with ⟨_, h⟩ | ⟨j, _, h, _⟩
    · exact absurd Hcp.out (h _ Hp.out)
    · exact ⟨j, h⟩
  clear hr
  go_wp2
  go_ret2
  exact ⟨rfl, tb⟩
end Go.Proofs.Ytjmgookpmngmaab
