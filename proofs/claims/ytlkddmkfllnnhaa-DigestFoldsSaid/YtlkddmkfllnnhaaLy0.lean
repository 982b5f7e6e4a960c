/- chapter 1's laws as the rows want them: an array of bytes. Own work. -/
import Derived.Test.YtlkddmkfllnnhaaLwC
import Derived.Test.YtlkddmkfllnnhaaDgW
namespace Go.Proofs.Ytlkddmkfllnnhaa.Ly
set_option linter.unusedVariables false
open Go.RowKit Go.Proofs.Ytlkddmkfllnnhaa.Dg Go.Proofs.Ytlkddmkfllnnhaa.PL Go.Proofs.YtlkddmkfllnnhaaW.PrintWords
theorem DigestFolds.calls (h : List Int) (r : Bool) (W : World) (hl : h.length = 32 ∧ B8 h) :
    Calls Try.prog 5 #[.agg (nums .u8 h).toArray] W fun e w' => e = .returned (.bool true) ∧ Below W.heap.size W w' := lawfolds_any h hl.1 W
end Go.Proofs.Ytlkddmkfllnnhaa.Ly
