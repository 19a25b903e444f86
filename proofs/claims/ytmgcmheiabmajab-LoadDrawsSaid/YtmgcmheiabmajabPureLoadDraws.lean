/- The pure statement behind LoadDraws: proved in LoP. -/
import Derived.Test.YtmgcmheiabmajabLoP
namespace Go.Proofs.Ytmgcmheiabmajab.Pure
open Go.RowKit Go.Proofs.Ytmgcmheiabmajab.Pr Go.Proofs.YtmgcmheiabmajabW.PrintWords Go.Proofs.YtmgcmheiabmajabW.PrintLast
theorem LoadDraws : pontoonlaw30_LoadDraws.Pure := Go.Proofs.Ytmgcmheiabmajab.LoadDraws
end Go.Proofs.Ytmgcmheiabmajab.Pure
