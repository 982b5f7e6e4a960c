/- lex: what is known of one text, by the kernel. Own work. -/
import Derived.Test.YtgenfggjonhmgaaLxP
import Derived.KernelRfl
namespace Go.Proofs.Ytgenfggjonhmgaa.Lx
set_option linter.unusedVariables false
set_option linter.unusedSimpArgs false
open Go.RowKit Go.Proofs.Ytgenfggjonhmgaa.Ml Go.Proofs.Ytgenfggjonhmgaa.PL Go.Proofs.YtgenfggjonhmgaaW.PrintWords Go.Proofs.YtgenfggjonhmgaaW.PrintLast Go.Proofs.YtgenfggjonhmgaaW.PrintMore
theorem lexS_known : lexS ⟨#[97, 32, 43, 32, 49]⟩ = ([⟨2, ⟨#[97]⟩, 0⟩, ⟨4, ⟨#[43]⟩, 2⟩, ⟨1, ⟨#[49]⟩, 4⟩, ⟨9, ⟨#[]⟩, 5⟩], 0, 0) := by kernel_rfl
end Go.Proofs.Ytgenfggjonhmgaa.Lx
