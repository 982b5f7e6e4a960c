/- chapter 22: LexHoles as its row wants it. Own work. -/
import Derived.Test.YtgenfggjonhmgaaMm6
namespace Go.Proofs.Ytgenfggjonhmgaa.Lh
set_option linter.unusedVariables false
open Go.RowKit Go.Proofs.Ytgenfggjonhmgaa.Ml Go.Proofs.Ytgenfggjonhmgaa.Mm Go.Proofs.Ytgenfggjonhmgaa.PL Go.Proofs.YtgenfggjonhmgaaW.PrintWords
theorem LexHoles.calls (k : Nat) (A : Option Addr) (c : Nat) (l : List ByteArray) (a1 : Int) (r : Bool) (W : World) (hC : Kd.C Kd.string W A l.length l) (hc : l.length ≤ c) (h : pantrylaw22_LexHoles.f k l a1 = some true) :
    Calls Try.prog 8 #[.slice A l.length c, .int .i64 a1] W fun e w' => e = .returned (.bool true) ∧ Below W.heap.size W w' := pantrylaw22_LexHoles.calls k A c l a1 true W hC hc h rfl
end Go.Proofs.Ytgenfggjonhmgaa.Lh
