/- For every two texts that are read, of 2000 bytes together and without a remark in the first: with a line's end, a remark and blanks between them they are read as one text, whose words are the first's but for its end and then the second's (places apart). No condition. -/
import Derived.Test.YtgenfggjonhmgaaLb0
namespace Go.Proofs.Ytgenfggjonhmgaa.Pure
theorem LexBlanks (a b : ByteArray) (ha : a.size ≤ 140737488351232) (hb : b.size ≤ 140737488351232) : a.size ≤ 140737488351232 ∧ b.size ≤ 140737488351232 := ⟨ha, hb⟩
end Go.Proofs.Ytgenfggjonhmgaa.Pure
