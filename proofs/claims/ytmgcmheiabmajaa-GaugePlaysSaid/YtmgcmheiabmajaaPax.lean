-- Written by a program of this session's (wip/ext/run.py) over the kit's print, with contracts of its own.
import Derived.Test.YtmgcmheiabmajaaPax0
import Derived.Test.YtmgcmheiabmajaaPax1
import Derived.Test.YtmgcmheiabmajaaPax2
namespace Go.Proofs.Ytmgcmheiabmajaa.Pa
open Go Go.RowKit Go.Proofs.YtmgcmheiabmajaaW.PrintWords Go.Proofs.YtmgcmheiabmajaaW.PrintLast Go.Proofs.YtmgcmheiabmajaaW.PrintMore
attribute [local go_sem] max2_int min2_int max_two min_two max_three min_three max_four min_four   -- for this text's walks alone
set_option linter.unusedVariables false
set_option linter.unusedSimpArgs false

end Go.Proofs.Ytmgcmheiabmajaa.Pa
