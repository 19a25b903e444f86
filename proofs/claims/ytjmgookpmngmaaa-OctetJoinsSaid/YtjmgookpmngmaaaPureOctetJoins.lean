/- Layer 1 (octet), the plain law of OctetJoins: for every input within the row's bounds the printed function answers true. No condition besides. -/
import Derived.Test.YtjmgookpmngmaaaPrx3
import Derived.Test.YtjmgookpmngmaaaOctPure
namespace Go.Proofs.Ytjmgookpmngmaaa.Pure
open Go.RowKit Go.Proofs.Ytjmgookpmngmaaa Go.Proofs.Ytjmgookpmngmaaa.Pr Go.Proofs.YtjmgookpmngmaaaW.PrintWords Go.Proofs.YtjmgookpmngmaaaW.PrintLast

theorem OctetJoins : pontoonlaw01_OctetJoins.Pure := by
  intro s t n hs ht _
  have hz : (⟨#[]⟩ : ByteArray).size ≤ 140737488351232 := by decide
  have hd : ∀ x : ByteArray, (⟨#[]⟩ : ByteArray) ++ x = x := fun x => by apply ByteArray.ext; simp
  have e1 : ∀ k, (putF (⟨#[]⟩ : ByteArray) n k).size = k := fun k => by rw [putF, hd, strOfNums_size, beBytes_length]
  have e2 : ∀ k, s ++ putF (⟨#[]⟩ : ByteArray) n k = putF s n k := fun k => by rw [putF, hd]; rfl
  have e3 : s ++ putTextF (⟨#[]⟩ : ByteArray) t = putTextF s t := by simp only [putTextF]; rw [hd, ByteArray.append_assoc]
  have e4 : ∀ k, (putF s n k).size = s.size + k := fun k => by rw [putF, ByteArray.size_append, strOfNums_size, beBytes_length]
  have e5 : (putTextF (⟨#[]⟩ : ByteArray) t).size ≤ t.size + 1 := by
    simp only [putTextF]
    rw [hd, ByteArray.size_append]
    split
    · exact Nat.le_refl _
    · rw [ByteArray.size_extract]
      show min _ _ - 0 + 1 ≤ _
      omega
  simp only [pontoonlaw01_OctetJoins.f, put16 s n hs, put32 s n hs, put16 _ n hz, put32 _ n hz, putText s t hs ht, putText _ t hz ht, Option.bind_some, e1, e2, e3, e4, if_true, known_true]
  rw [if_pos (by omega), if_pos (by omega), if_pos (by omega), wrap_in (by omega) (by omega), wrap_in (by omega) (by omega)]
  simp
end Go.Proofs.Ytjmgookpmngmaaa.Pure
