-- Laid by a program of this session out of the kit's print, changed; see NOTES.md
import Derived.Test.YtgenfggjonhmgaaProg
import Derived.Below
import Derived.Deep.Draws
import Derived.Deep.AppendLies
import Derived.Maps.AppendAt
import Derived.OwnWalk
import Derived.Laws.BytesArg
import Derived.Laws.MakeOwn
import Derived.Laws.OwnMore
import Derived.Deep.OwnRows
import Derived.Tactics
import Derived.Lib.ConvBytes
import Derived.Laws.Slices
import Derived.WalkKit
import Derived.KernelRfl
import Derived.RowKit3
import Derived.Deep.LoopGhost
import Derived.Deep.QuietTactic
import Derived.BigQuiet
import Derived.WideLaws
import Derived.Deep.DeepCutAuto
import Derived.Deep.CutBlock
import Derived.Deep.RegionHeld3
import Derived.Laws.Rows
import Derived.Lib.AppendStr
import Derived.ArgAppend
import Derived.Laws.IdiomCopy
import Derived.OrdersHeld
import Derived.Laws.BitsLemmas
import Derived.RowKit
import Derived.Test.YtgenfggjonhmgaaX
import Derived.Test.YtgenfggjonhmgaaLxK
import Derived.Test.YtgenfggjonhmgaaWWords
import Derived.Test.YtgenfggjonhmgaaWLast
import Derived.Test.YtgenfggjonhmgaaWTab
import Derived.Test.YtgenfggjonhmgaaWFour
import Derived.Test.YtgenfggjonhmgaaWQPut
import Derived.Test.YtgenfggjonhmgaaWApart
import Derived.Test.YtgenfggjonhmgaaWArr
import Derived.Test.YtgenfggjonhmgaaWZeros
import Derived.Test.YtgenfggjonhmgaaWFoot
import Derived.Test.YtgenfggjonhmgaaWKept
import Derived.Test.YtgenfggjonhmgaaWShare
import Derived.Test.YtgenfggjonhmgaaWN
import Derived.Test.YtgenfggjonhmgaaWFootNe
import Derived.Test.YtgenfggjonhmgaaWAt
import Derived.Test.YtgenfggjonhmgaaWEqStruct
import Derived.Test.YtgenfggjonhmgaaWRepsOne
import Derived.Test.YtgenfggjonhmgaaWInv
import Derived.Test.YtgenfggjonhmgaaWInvWords
import Derived.Test.YtgenfggjonhmgaaWGuard
import Derived.Test.YtgenfggjonhmgaaWNEv
import Derived.Test.YtgenfggjonhmgaaWMore
namespace Go.Proofs.Ytgenfggjonhmgaa.Mm
open Go.Proofs.Ytgenfggjonhmgaa.Ml Go.Proofs.Ytgenfggjonhmgaa Go.RowKit Go.Proofs.YtgenfggjonhmgaaW.PrintWords Go.Proofs.YtgenfggjonhmgaaW.PrintLast Go.Proofs.YtgenfggjonhmgaaW.PrintMore
attribute [local go_sem] max2_int min2_int max_two min_two max_three min_three max_four min_four   -- for this text's walks alone
set_option linter.unusedVariables false
set_option linter.unusedSimpArgs false



def errW : Option Int → Value
  | none => .nilIface
  | some c => .iface 0 (.int .i64 c)
theorem errW_none : errW none = .nilIface := rfl
theorem errW_some (c : Int) : errW (some c) = .iface 0 (.int .i64 c) := rfl

theorem info5 : (Try.prog.info? 5).map (fun i => (i.zero, i.size, i.bytes)) = some (some (.int .u8 0), 1, 1) := by kernel_rfl
theorem info9 : (Try.prog.info? 9).map (fun i => (i.zero, i.size, i.bytes)) = some (some (.string ⟨#[]⟩), 1, 16) := by kernel_rfl
theorem info28 : (Try.prog.info? 28).map (fun i => (i.zero, i.size, i.bytes)) = some (some (.agg #[(.int .i64 0), (.string ⟨#[]⟩), (.int .i64 0)]), 3, 32) := by kernel_rfl
def rd_L5 (xs : List (List S28)) (i : Int) : (List S28) := xs.getD i.toNat ([] : List S28)
theorem at_L5 {w : World} {A : Option Addr} {n : Nat} {xs : List (List S28)} (h : Kd.C (Kd.slice 28 k28) w A n xs) (i : Int) (h0 : 0 ≤ i) (h1 : i < n) : ∃ ad A0 c0, A = some ad ∧ w.cell? (ad.add i.toNat) = some (.slice A0 (rd_L5 xs i).length c0) ∧ (rd_L5 xs i).length ≤ c0 ∧ k28.C w A0 (rd_L5 xs i).length (rd_L5 xs i) := by
  obtain ⟨ad, c, e, _, hK, hc0⟩ := Kd.C_get h ([] : List S28) i h0 h1
  have hc : ∀ j u, c[j]? = some u → w.cell? (ad.add (i.toNat * 1 + j)) = some u := hc0
  obtain ⟨A0, c0, rfl, l0, g0⟩ := hK
  exact ⟨ad, A0, c0, e, by have hq := hc 0 _ rfl; rwa [Nat.mul_one, Nat.add_zero] at hq, l0, g0⟩

end Go.Proofs.Ytgenfggjonhmgaa.Mm
