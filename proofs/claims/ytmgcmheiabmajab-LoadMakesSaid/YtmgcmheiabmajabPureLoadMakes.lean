/- The pure statement behind LoadMakes: proved in LoP. -/
import Derived.Test.YtmgcmheiabmajabLoP
namespace Go.Proofs.Ytmgcmheiabmajab.Pure
open Go.RowKit Go.Proofs.Ytmgcmheiabmajab.Pr Go.Proofs.YtmgcmheiabmajabW.PrintWords Go.Proofs.YtmgcmheiabmajabW.PrintLast
theorem LoadMakes : pontoonlaw30_LoadMakes.Pure := Go.Proofs.Ytmgcmheiabmajab.LoadMakes
end Go.Proofs.Ytmgcmheiabmajab.Pure
