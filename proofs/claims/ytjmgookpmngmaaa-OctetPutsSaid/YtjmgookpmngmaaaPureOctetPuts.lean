/- Layer 1 (octet), the plain law of OctetPuts: for every input within the row's bounds the printed function answers true. No condition besides. -/
import Derived.Test.YtjmgookpmngmaaaPrx3
import Derived.Test.YtjmgookpmngmaaaOctPure
namespace Go.Proofs.Ytjmgookpmngmaaa.Pure
open Go.RowKit Go.Proofs.Ytjmgookpmngmaaa Go.Proofs.Ytjmgookpmngmaaa.Pr Go.Proofs.YtjmgookpmngmaaaW.PrintWords Go.Proofs.YtjmgookpmngmaaaW.PrintLast

theorem OctetPuts : pontoonlaw01_OctetPuts.Pure := by
  intro s t n hs ht _
  refine ⟨t.size + 1, ?_⟩
  simp only [pontoonlaw01_OctetPuts.f, put16 s n hs, refPut16 s n hs, put32 s n hs, refPut32 s n hs, putText s t hs ht, refPutText s t hs ht (t.size + 1) (by omega), known_true, Option.bind_some, if_true]
end Go.Proofs.Ytjmgookpmngmaaa.Pure
