/- chapter 1's laws as the rows want them. Own work. -/
import Derived.Test.YtlkddmkfllnnhaaLwA
namespace Go.Proofs.Ytlkddmkfllnnhaa.Lw
set_option linter.unusedVariables false
open Go.RowKit Go.Proofs.Ytlkddmkfllnnhaa.Dg Go.Proofs.Ytlkddmkfllnnhaa.PL Go.Proofs.YtlkddmkfllnnhaaW.PrintWords
theorem DigestSums.calls (A : Option Addr) (c : Nat) (l : List Int) (r : Bool) (W : World) (hC : (Kd.int .u8).C W A l.length l) (hc : l.length ≤ c) (h : B8 l ∧ l.length ≤ 140737488351232) :
    Calls Try.prog 3 #[.slice A l.length c] W fun e w' => e = .returned (.bool true) ∧ Below W.heap.size W w' := sums_any A c l W hC hc h.2 h.1
end Go.Proofs.Ytlkddmkfllnnhaa.Lw
