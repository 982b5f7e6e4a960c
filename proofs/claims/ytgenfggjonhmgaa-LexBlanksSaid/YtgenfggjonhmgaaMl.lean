-- Laid by a program of this session out of the kit's print, changed; see NOTES.md
import Derived.Test.YtgenfggjonhmgaaMl0
import Derived.Test.YtgenfggjonhmgaaMl1
import Derived.Test.YtgenfggjonhmgaaMl2
namespace Go.Proofs.Ytgenfggjonhmgaa.Ml
open Go.RowKit Go.Proofs.YtgenfggjonhmgaaW.PrintWords Go.Proofs.YtgenfggjonhmgaaW.PrintLast Go.Proofs.YtgenfggjonhmgaaW.PrintMore
attribute [local go_sem] max2_int min2_int max_two min_two max_three min_three max_four min_four   -- for this text's walks alone
set_option linter.unusedVariables false
set_option linter.unusedSimpArgs false

end Go.Proofs.Ytgenfggjonhmgaa.Ml
