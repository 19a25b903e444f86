/- Layer 1 (octet), the plain law of OctetShort: for every input within the row's bounds the printed function answers true. No condition besides. -/
import Derived.Test.YtjmgookpmngmaaaPrx3
import Derived.Test.YtjmgookpmngmaaaOctPure
namespace Go.Proofs.Ytjmgookpmngmaaa.Pure
open Go.RowKit Go.Proofs.Ytjmgookpmngmaaa Go.Proofs.Ytjmgookpmngmaaa.Pr Go.Proofs.YtjmgookpmngmaaaW.PrintWords Go.Proofs.YtjmgookpmngmaaaW.PrintLast

theorem OctetShort : pontoonlaw01_OctetShort.Pure := by
  intro s hs
  have m0 : mx (wrap64 ((s.size : Int) - 1)) 0 = if s.size = 0 then 0 else (s.size : Int) - 1 := by
    rw [wrap_in (by omega) (by omega)]; unfold mx; split <;> split <;> omega
  have m1 : mx (wrap64 ((s.size : Int) - 3)) 0 = if s.size < 3 then 0 else (s.size : Int) - 3 := by
    rw [wrap_in (by omega) (by omega)]; unfold mx; split <;> split <;> omega
  have b0 : 0 ≤ (if s.size = 0 then 0 else (s.size : Int) - 1) ∧ (if s.size = 0 then 0 else (s.size : Int) - 1) ≤ s.size ∧ (s.size : Int) - (if s.size = 0 then 0 else (s.size : Int) - 1) < 2 := by split <;> omega
  have b1 : 0 ≤ (if s.size < 3 then 0 else (s.size : Int) - 3) ∧ (if s.size < 3 then 0 else (s.size : Int) - 3) ≤ s.size ∧ (s.size : Int) - (if s.size < 3 then 0 else (s.size : Int) - 3) < 4 := by split <;> omega
  have w1 : wrap64 ((s.size : Int) + 1) = (s.size : Int) + 1 := wrap_in (by omega) (by omega)
  simp only [pontoonlaw01_OctetShort.f, m0, m1, w1]
  generalize (if s.size = 0 then 0 else (s.size : Int) - 1) = p at b0
  generalize (if s.size < 3 then 0 else (s.size : Int) - 3) = q at b1
  have g1 : octet_Get16.f s p = some (0, 0, 3) := by
    simp only [octet_Get16.f]; rw [if_pos (by omega)]; simp only [numF]; rw [if_neg (by omega), if_pos (by omega)]
  have g2 : octet_Get32.f s q = some (0, 0, 3) := by
    simp only [octet_Get32.f]; rw [if_pos (by omega)]; simp only [numF]; rw [if_neg (by omega), if_pos (by omega)]
  have g3 : octet_GetBytes.f s s.size 1 = some ((⟨#[]⟩ : ByteArray), 0, 3) := by
    simp only [octet_GetBytes.f]; rw [if_pos (by omega)]; simp only [gotF]; rw [if_neg (by omega), if_pos (by omega)]
  have g4 : octet_Get16.f s ((s.size : Int) + 1) = some (0, 0, 1) := by
    simp only [octet_Get16.f]; rw [if_pos (by omega)]; simp only [numF]; rw [if_pos (by omega)]
  have g5 : octet_GetText.f s (-1) = some ((⟨#[]⟩ : ByteArray), 0, 1) := by
    simp only [octet_GetText.f]; rw [if_pos (by omega)]; simp only [getTextF]; rw [if_pos (by omega)]
  have g6 : octet_GetBytes.f s s.size 0 = some ((⟨#[]⟩ : ByteArray), (s.size : Int), 0) := by
    simp only [octet_GetBytes.f]; rw [if_pos (by omega)]; simp only [gotF]; rw [if_neg (by omega), if_neg (by omega)]
    have e : s.extract (s.size : Int).toNat ((s.size : Int) + 0).toNat = (⟨#[]⟩ : ByteArray) := by apply ByteArray.ext; simp
    rw [e]; simp
  simp [g1, g2, g3, g4, g5, g6, known_true, ByteArray.toList_eq]
end Go.Proofs.Ytjmgookpmngmaaa.Pure
