/- The digest of any bytes under any key, as the program reckons it, is the one that the reference reckons: the law holds of every input, without condition. -/
import Derived.Test.YtlkddmkfllnnhaaPL
namespace Go.Proofs.Ytlkddmkfllnnhaa.Pure
set_option linter.unusedVariables false
open Go.RowKit Go.Proofs.Ytlkddmkfllnnhaa.PL
theorem DigestMacs (k l : List Int) (m0 : k.length ≤ maxLen) (y0 : k.length * 1 ≤ 140737488351232) (g0 : ∀ x ∈ k, (Lit.int .u8 x).wf = true) (m : l.length ≤ maxLen) (y : l.length * 1 ≤ 140737488351232) (g : ∀ x ∈ l, (Lit.int .u8 x).wf = true) :
    (B8 k ∧ k.length ≤ 140737488351232) ∧ B8 l ∧ l.length ≤ 140737488351232 := ⟨⟨B8.of_wf g0, by omega⟩, B8.of_wf g, by omega⟩
end Go.Proofs.Ytlkddmkfllnnhaa.Pure
