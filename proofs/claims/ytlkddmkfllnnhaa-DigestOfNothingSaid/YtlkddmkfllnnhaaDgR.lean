/- digest: words turned. Own work. -/
import Derived.Test.YtlkddmkfllnnhaaDgA
namespace Go.Proofs.Ytlkddmkfllnnhaa.Dg
set_option linter.unusedVariables false
set_option linter.unusedSimpArgs false
open Go.RowKit Go.Proofs.Ytlkddmkfllnnhaa.Md Go.Proofs.Ytlkddmkfllnnhaa.PL Go.Proofs.YtlkddmkfllnnhaaW.PrintWords Go.Proofs.YtlkddmkfllnnhaaW.PrintLast Go.Proofs.YtlkddmkfllnnhaaW.PrintMore

/-- a word turned to the right -/
def rr (n : Nat) (x : Int) : Int := Go.bits .or .u32 (x / 2 ^ n) (x * 2 ^ (32 - n) % 4294967296)
theorem or_comm32 (a b : Int) : Go.bits .or .u32 a b = Go.bits .or .u32 b a := by unfold Go.bits; simp only [BitVec.or_comm]
theorem ret_u32 {a b : Int} (h : a = b) : Ending.returned (.int .u32 a) = .returned (.int .u32 b) := by rw [h]
theorem turn2 (x : Int) (w : World) (h0 : 0 ≤ x) (h1 : x < 4294967296) : Calls Try.prog 42 #[.int .u32 x, .int .i64 2] w fun e w' => e = .returned (.int .u32 (rr 2 x)) ∧ w' = w := by
  have e1 : Go.bits .and .u64 (IntKind.u64.wrap (-2)) 31 = 30 := by decide +kernel
  go_enter Try.func42, Try.ntmps42
  go_wp2
  go_ret
  exact ⟨ret_u32 (or_comm32 _ _), rfl⟩
theorem turnR2 (x : Int) (w : World) (h0 : 0 ≤ x) (h1 : x < 4294967296) : Calls Try.prog 44 #[.int .u32 x, .int .u64 2] w fun e w' => e = .returned (.int .u32 (rr 2 x)) ∧ w' = w := by
  go_enter Try.func44, Try.ntmps44
  go_wp2
  go_ret
  exact ⟨rfl, rfl⟩
theorem turn6 (x : Int) (w : World) (h0 : 0 ≤ x) (h1 : x < 4294967296) : Calls Try.prog 42 #[.int .u32 x, .int .i64 6] w fun e w' => e = .returned (.int .u32 (rr 6 x)) ∧ w' = w := by
  have e1 : Go.bits .and .u64 (IntKind.u64.wrap (-6)) 31 = 26 := by decide +kernel
  go_enter Try.func42, Try.ntmps42
  go_wp2
  go_ret
  exact ⟨ret_u32 (or_comm32 _ _), rfl⟩
theorem turnR6 (x : Int) (w : World) (h0 : 0 ≤ x) (h1 : x < 4294967296) : Calls Try.prog 44 #[.int .u32 x, .int .u64 6] w fun e w' => e = .returned (.int .u32 (rr 6 x)) ∧ w' = w := by
  go_enter Try.func44, Try.ntmps44
  go_wp2
  go_ret
  exact ⟨rfl, rfl⟩
theorem turn7 (x : Int) (w : World) (h0 : 0 ≤ x) (h1 : x < 4294967296) : Calls Try.prog 42 #[.int .u32 x, .int .i64 7] w fun e w' => e = .returned (.int .u32 (rr 7 x)) ∧ w' = w := by
  have e1 : Go.bits .and .u64 (IntKind.u64.wrap (-7)) 31 = 25 := by decide +kernel
  go_enter Try.func42, Try.ntmps42
  go_wp2
  go_ret
  exact ⟨ret_u32 (or_comm32 _ _), rfl⟩
theorem turnR7 (x : Int) (w : World) (h0 : 0 ≤ x) (h1 : x < 4294967296) : Calls Try.prog 44 #[.int .u32 x, .int .u64 7] w fun e w' => e = .returned (.int .u32 (rr 7 x)) ∧ w' = w := by
  go_enter Try.func44, Try.ntmps44
  go_wp2
  go_ret
  exact ⟨rfl, rfl⟩
theorem turn11 (x : Int) (w : World) (h0 : 0 ≤ x) (h1 : x < 4294967296) : Calls Try.prog 42 #[.int .u32 x, .int .i64 11] w fun e w' => e = .returned (.int .u32 (rr 11 x)) ∧ w' = w := by
  have e1 : Go.bits .and .u64 (IntKind.u64.wrap (-11)) 31 = 21 := by decide +kernel
  go_enter Try.func42, Try.ntmps42
  go_wp2
  go_ret
  exact ⟨ret_u32 (or_comm32 _ _), rfl⟩
theorem turnR11 (x : Int) (w : World) (h0 : 0 ≤ x) (h1 : x < 4294967296) : Calls Try.prog 44 #[.int .u32 x, .int .u64 11] w fun e w' => e = .returned (.int .u32 (rr 11 x)) ∧ w' = w := by
  go_enter Try.func44, Try.ntmps44
  go_wp2
  go_ret
  exact ⟨rfl, rfl⟩
theorem turn13 (x : Int) (w : World) (h0 : 0 ≤ x) (h1 : x < 4294967296) : Calls Try.prog 42 #[.int .u32 x, .int .i64 13] w fun e w' => e = .returned (.int .u32 (rr 13 x)) ∧ w' = w := by
  have e1 : Go.bits .and .u64 (IntKind.u64.wrap (-13)) 31 = 19 := by decide +kernel
  go_enter Try.func42, Try.ntmps42
  go_wp2
  go_ret
  exact ⟨ret_u32 (or_comm32 _ _), rfl⟩
theorem turnR13 (x : Int) (w : World) (h0 : 0 ≤ x) (h1 : x < 4294967296) : Calls Try.prog 44 #[.int .u32 x, .int .u64 13] w fun e w' => e = .returned (.int .u32 (rr 13 x)) ∧ w' = w := by
  go_enter Try.func44, Try.ntmps44
  go_wp2
  go_ret
  exact ⟨rfl, rfl⟩
theorem turn17 (x : Int) (w : World) (h0 : 0 ≤ x) (h1 : x < 4294967296) : Calls Try.prog 42 #[.int .u32 x, .int .i64 17] w fun e w' => e = .returned (.int .u32 (rr 17 x)) ∧ w' = w := by
  have e1 : Go.bits .and .u64 (IntKind.u64.wrap (-17)) 31 = 15 := by decide +kernel
  go_enter Try.func42, Try.ntmps42
  go_wp2
  go_ret
  exact ⟨ret_u32 (or_comm32 _ _), rfl⟩
theorem turnR17 (x : Int) (w : World) (h0 : 0 ≤ x) (h1 : x < 4294967296) : Calls Try.prog 44 #[.int .u32 x, .int .u64 17] w fun e w' => e = .returned (.int .u32 (rr 17 x)) ∧ w' = w := by
  go_enter Try.func44, Try.ntmps44
  go_wp2
  go_ret
  exact ⟨rfl, rfl⟩
theorem turn18 (x : Int) (w : World) (h0 : 0 ≤ x) (h1 : x < 4294967296) : Calls Try.prog 42 #[.int .u32 x, .int .i64 18] w fun e w' => e = .returned (.int .u32 (rr 18 x)) ∧ w' = w := by
  have e1 : Go.bits .and .u64 (IntKind.u64.wrap (-18)) 31 = 14 := by decide +kernel
  go_enter Try.func42, Try.ntmps42
  go_wp2
  go_ret
  exact ⟨ret_u32 (or_comm32 _ _), rfl⟩
theorem turnR18 (x : Int) (w : World) (h0 : 0 ≤ x) (h1 : x < 4294967296) : Calls Try.prog 44 #[.int .u32 x, .int .u64 18] w fun e w' => e = .returned (.int .u32 (rr 18 x)) ∧ w' = w := by
  go_enter Try.func44, Try.ntmps44
  go_wp2
  go_ret
  exact ⟨rfl, rfl⟩
theorem turn19 (x : Int) (w : World) (h0 : 0 ≤ x) (h1 : x < 4294967296) : Calls Try.prog 42 #[.int .u32 x, .int .i64 19] w fun e w' => e = .returned (.int .u32 (rr 19 x)) ∧ w' = w := by
  have e1 : Go.bits .and .u64 (IntKind.u64.wrap (-19)) 31 = 13 := by decide +kernel
  go_enter Try.func42, Try.ntmps42
  go_wp2
  go_ret
  exact ⟨ret_u32 (or_comm32 _ _), rfl⟩
theorem turnR19 (x : Int) (w : World) (h0 : 0 ≤ x) (h1 : x < 4294967296) : Calls Try.prog 44 #[.int .u32 x, .int .u64 19] w fun e w' => e = .returned (.int .u32 (rr 19 x)) ∧ w' = w := by
  go_enter Try.func44, Try.ntmps44
  go_wp2
  go_ret
  exact ⟨rfl, rfl⟩
theorem turn22 (x : Int) (w : World) (h0 : 0 ≤ x) (h1 : x < 4294967296) : Calls Try.prog 42 #[.int .u32 x, .int .i64 22] w fun e w' => e = .returned (.int .u32 (rr 22 x)) ∧ w' = w := by
  have e1 : Go.bits .and .u64 (IntKind.u64.wrap (-22)) 31 = 10 := by decide +kernel
  go_enter Try.func42, Try.ntmps42
  go_wp2
  go_ret
  exact ⟨ret_u32 (or_comm32 _ _), rfl⟩
theorem turnR22 (x : Int) (w : World) (h0 : 0 ≤ x) (h1 : x < 4294967296) : Calls Try.prog 44 #[.int .u32 x, .int .u64 22] w fun e w' => e = .returned (.int .u32 (rr 22 x)) ∧ w' = w := by
  go_enter Try.func44, Try.ntmps44
  go_wp2
  go_ret
  exact ⟨rfl, rfl⟩
theorem turn25 (x : Int) (w : World) (h0 : 0 ≤ x) (h1 : x < 4294967296) : Calls Try.prog 42 #[.int .u32 x, .int .i64 25] w fun e w' => e = .returned (.int .u32 (rr 25 x)) ∧ w' = w := by
  have e1 : Go.bits .and .u64 (IntKind.u64.wrap (-25)) 31 = 7 := by decide +kernel
  go_enter Try.func42, Try.ntmps42
  go_wp2
  go_ret
  exact ⟨ret_u32 (or_comm32 _ _), rfl⟩
theorem turnR25 (x : Int) (w : World) (h0 : 0 ≤ x) (h1 : x < 4294967296) : Calls Try.prog 44 #[.int .u32 x, .int .u64 25] w fun e w' => e = .returned (.int .u32 (rr 25 x)) ∧ w' = w := by
  go_enter Try.func44, Try.ntmps44
  go_wp2
  go_ret
  exact ⟨rfl, rfl⟩
end Go.Proofs.Ytlkddmkfllnnhaa.Dg
