/- For every row of at most 2000 bytes: written between quotes, with a stroke ahead of each quote, stroke and dollar, it is read as one text, whose piece is those bytes (no piece where there are none). No condition. -/
import Derived.Test.YtgenfggjonhmgaaLt0
namespace Go.Proofs.Ytgenfggjonhmgaa.Pure
open Go.RowKit Go.Proofs.Ytgenfggjonhmgaa.PL
theorem LexTexts (l : List Int) (m : l.length ≤ maxLen) (y : l.length * 1 ≤ 140737488351232) (g : ∀ x ∈ l, (Lit.int .u8 x).wf = true) : B8 l := B8.of_wf g
end Go.Proofs.Ytgenfggjonhmgaa.Pure
