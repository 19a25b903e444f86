/- Layer 1 (octet), the plain law of OctetGets: for every input within the row's bounds the printed function answers true. No condition besides. -/
import Derived.Test.YtjmgookpmngmaaaPrx3
import Derived.Test.YtjmgookpmngmaaaOctPure
namespace Go.Proofs.Ytjmgookpmngmaaa.Pure
open Go.RowKit Go.Proofs.Ytjmgookpmngmaaa Go.Proofs.Ytjmgookpmngmaaa.Pr Go.Proofs.YtjmgookpmngmaaaW.PrintWords Go.Proofs.YtjmgookpmngmaaaW.PrintLast

theorem OctetGets : pontoonlaw01_OctetGets.Pure := by
  intro s a n hs ha hn
  have ha := wf_i64 ha
  have hn := wf_i64 hn
  have h1 : octet_Get16.f s a = some (numF s a 2) := by simp only [octet_Get16.f]; rw [if_pos (by omega)]
  have h2 : octet_Get32.f s a = some (numF s a 4) := by simp only [octet_Get32.f]; rw [if_pos (by omega)]
  have h3 : octet_GetText.f s a = some (getTextF s a) := by simp only [octet_GetText.f]; rw [if_pos (by omega)]
  have h4 : octet_GetBytes.f s a n = some (gotF s a n) := by simp only [octet_GetBytes.f]; rw [if_pos (by omega)]
  refine ⟨s.size + 8, ?_⟩
  simp only [pontoonlaw01_OctetGets.f, h1, h2, refGet16 s a (s.size + 8) (by omega) hs ha, refGet32 s a (s.size + 8) (by omega) hs ha, Option.bind_some, if_true, bne_self_eq_false]
  simp only [pontoonlaw01_OctetGets.j0, h3, h4, refGetText s a (s.size + 7) (by omega) hs, refGetBytes s a n (s.size + 7) (by omega) hs ha hn, known_true, Option.bind_some, if_true]
  rfl
end Go.Proofs.Ytjmgookpmngmaaa.Pure
