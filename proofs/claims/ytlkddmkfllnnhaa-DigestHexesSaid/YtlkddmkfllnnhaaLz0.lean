/- chapter 1's laws as the rows want them: an array of bytes and a text. Own work. -/
import Derived.Test.YtlkddmkfllnnhaaLwD
import Derived.Test.YtlkddmkfllnnhaaDgW
namespace Go.Proofs.Ytlkddmkfllnnhaa.Lz
set_option linter.unusedVariables false
open Go.RowKit Go.Proofs.Ytlkddmkfllnnhaa.Dg Go.Proofs.Ytlkddmkfllnnhaa.PL Go.Proofs.YtlkddmkfllnnhaaW.PrintWords
theorem DigestHexes.calls (h : List Int) (s : ByteArray) (r : Bool) (W : World) (hl : (h.length = 32 ∧ B8 h) ∧ s.size ≤ 140737488351232) :
    Calls Try.prog 6 #[.agg (nums .u8 h).toArray, .string s] W fun e w' => e = .returned (.bool true) ∧ Below W.heap.size W w' := lawhexes_any h hl.1.1 hl.1.2 s hl.2 W
end Go.Proofs.Ytlkddmkfllnnhaa.Lz
