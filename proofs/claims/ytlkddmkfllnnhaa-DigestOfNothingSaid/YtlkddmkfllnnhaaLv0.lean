/- chapter 1's law of nothing as the row wants it. Own work. -/
import Derived.Test.YtlkddmkfllnnhaaLwN
namespace Go.Proofs.Ytlkddmkfllnnhaa.Lv
set_option linter.unusedVariables false
open Go.RowKit Go.Proofs.Ytlkddmkfllnnhaa.Dg Go.Proofs.Ytlkddmkfllnnhaa.PL Go.Proofs.YtlkddmkfllnnhaaW.PrintWords
theorem DigestOfNothing.calls (A : Option Addr) (c : Nat) (l : List Int) (r : Bool) (W : World) (hC : (Kd.int .u8).C W A l.length l) (hc : l.length ≤ c) (h : True) :
    Calls Try.prog 7 #[.slice A l.length c] W fun e w' => e = .returned (.bool true) ∧ Below W.heap.size W w' := lawnothing_any A c l W
end Go.Proofs.Ytlkddmkfllnnhaa.Lv
