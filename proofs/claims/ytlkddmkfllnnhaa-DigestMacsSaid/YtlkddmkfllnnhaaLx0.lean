/- chapter 1's laws as the rows want them: a key. Own work. -/
import Derived.Test.YtlkddmkfllnnhaaLwB
namespace Go.Proofs.Ytlkddmkfllnnhaa.Lx
set_option linter.unusedVariables false
open Go.RowKit Go.Proofs.Ytlkddmkfllnnhaa.Dg Go.Proofs.Ytlkddmkfllnnhaa.PL Go.Proofs.YtlkddmkfllnnhaaW.PrintWords
theorem DigestMacs.calls (Ak : Option Addr) (ck : Nat) (key : List Int) (A : Option Addr) (c : Nat) (l : List Int) (r : Bool) (W : World) (hCk : (Kd.int .u8).C W Ak key.length key) (hck : key.length ≤ ck) (hC : (Kd.int .u8).C W A l.length l) (hc : l.length ≤ c)
    (h : (B8 key ∧ key.length ≤ 140737488351232) ∧ B8 l ∧ l.length ≤ 140737488351232) :
    Calls Try.prog 4 #[.slice Ak key.length ck, .slice A l.length c] W fun e w' => e = .returned (.bool true) ∧ Below W.heap.size W w' := macs_any Ak ck key A c l W hCk hck hC hc h.1.2 h.2.2 h.1.1 h.2.1
end Go.Proofs.Ytlkddmkfllnnhaa.Lx
