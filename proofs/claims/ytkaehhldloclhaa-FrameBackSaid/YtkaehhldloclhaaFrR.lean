/- frame: what the document's printed functions come to. -/
import Derived.Test.YtkaehhldloclhaaFrK
import Derived.Test.YtkaehhldloclhaaPrx3
namespace Go.Proofs.Ytkaehhldloclhaa
open Go Go.RowKit

theorem be4' (n : Int) : beBytes n 4 = [n / 16777216 % 256, n / 65536 % 256, n / 256 % 256, n % 256] := by simp [beBytes]
theorem rPut32_f (s : ByteArray) (n : Int) (h : s.size ≤ 140737488351232) : Pr.pontoonref01_Put32.f s n = some (putF s n 4) := by
  simp only [Pr.pontoonref01_Put32.f, Option.bind_some, ← be4']
  rw [if_pos (by rw [strOfNums_size, beBytes_length]; omega)]; rfl
theorem rRight_f (m : Msg) : Pr.pontoonref02_Right.f m.kind.toNat m.body = some (rightF m) := by
  obtain ⟨k, b⟩ := m
  unfold Pr.pontoonref02_Right.f rightF printable
  dsimp only
  by_cases h0 : k = 0
  · subst h0
    rw [if_pos (show ((0 : UInt8).toNat : Int) = 0 from rfl)]
    simp
    omega
  · have hn : ¬ ((k.toNat : Int) = 0) := fun e => h0 (UInt8.toNat_inj.1 (by simpa using e))
    rw [if_neg hn]
    by_cases h1 : (k.toNat : Int) ≥ 33
    · have h1' : 33 ≤ k.toNat := by omega
      rw [if_pos h1]
      by_cases h2 : (k.toNat : Int) ≤ 126
      · have h2' : k.toNat ≤ 126 := by omega
        rw [if_pos h2]
        simp [h0, h1', h2']
        omega
      · have h2' : ¬ k.toNat ≤ 126 := by omega
        rw [if_neg h2]
        simp [h0, h2']
    · have h1' : ¬ 33 ≤ k.toNat := by omega
      rw [if_neg h1]
      simp [h0, h1']
theorem strOne (k : UInt8) : strOfNums [(k.toNat : Int)] = ⟨#[k]⟩ := by
  unfold strOfNums
  simp
theorem rPut_f (m : Msg) : Pr.pontoonref02_Put.f m.kind.toNat m.body = some (putM m) := by
  unfold Pr.pontoonref02_Put.f putM
  rw [rRight_f, Option.bind_some]
  cases hr : rightF m with
  | false => rfl
  | true =>
    have hb : m.body.size ≤ 4092 := by simp [rightF] at hr; omega
    have hw : wrap64 ((m.body.size : Int) + 4) = (m.body.size : Int) + 4 := IntWalk.wrap64_in _ (by omega)
    have hz : ∀ s : ByteArray, (putF s ((m.body.size : Int) + 4) 4).size = s.size + 4 := fun s => by rw [putF, ByteArray.size_append, strOfNums_size, beBytes_length]
    rw [if_pos rfl, if_pos rfl, hw]
    by_cases h0 : m.kind = 0
    · rw [if_neg (by rw [h0]; decide), rPut32_f _ _ (show 0 ≤ _ by omega), Option.bind_some, if_pos (by rw [hz]; show 0 + 4 + _ ≤ _; omega)]
      simp [headB, h0]
      rfl
    · have hn : (m.kind.toNat : Int) > 0 := by
        have : m.kind.toNat ≠ 0 := fun e => h0 (UInt8.toNat_inj.1 (by simpa using e))
        omega
      rw [if_pos hn, strOne, rPut32_f _ _ (by show 1 ≤ _; omega), Option.bind_some, if_pos (by rw [hz]; show 1 + 4 + _ ≤ _; omega)]
      simp only [headB, if_neg h0, putF]
      rw [ByteArray.append_assoc, ByteArray.empty_append]
theorem refRight_any (m : Msg) (w : World) : Calls Try.prog 9 #[msgV m] w fun e w' => e = .returned (.bool (rightF m)) ∧ Touch [] w w' :=
  (Pr.pontoonref02_Right.calls m.kind.toNat m.body _ w (rRight_f m)).mono fun _ _ ⟨he, hb⟩ => ⟨he, Touch.of_below hb⟩
theorem refPut_any (m : Msg) (w : World) : Calls Try.prog 11 #[msgV m] w fun e w' => e = .returned (.string (putM m)) ∧ Touch [] w w' :=
  (Pr.pontoonref02_Put.calls m.kind.toNat m.body _ w (rPut_f m)).mono fun _ _ ⟨he, hb⟩ => ⟨he, Touch.of_below hb⟩
end Go.Proofs.Ytkaehhldloclhaa
