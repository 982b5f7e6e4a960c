/- digest: an array of bytes equals itself. Own work. -/
import Derived.Test.YtlkddmkfllnnhaaDgE
import Derived.Laws.StructEq
namespace Go.Proofs.Ytlkddmkfllnnhaa.Dg
set_option linter.unusedVariables false
set_option linter.unusedSimpArgs false
open Go.RowKit Go.Proofs.Ytlkddmkfllnnhaa.Md Go.Proofs.Ytlkddmkfllnnhaa.PL Go.Proofs.YtlkddmkfllnnhaaW.PrintWords Go.Proofs.YtlkddmkfllnnhaaW.PrintLast Go.Proofs.YtlkddmkfllnnhaaW.PrintMore
theorem part_u8 (w : World) (l : List Int) (i : Nat) (h : i < l.length) : (part 5 (nums .u8 l).toArray i).run Try.prog w = .ok (.int .u8 (l.getD i 0)) w := by
  have h2 : (nums .u8 l)[i]? = some (.int .u8 (l.getD i 0)) := by simp [nums, List.getD_eq_getElem?_getD, List.getElem?_eq_getElem h]
  simp [part, go_sem, h2]
theorem eq_arr_d (d t len : Nat) (ht : Try.prog.underlying t = some (.array len 5)) (w : World) (l : List Int) (hl : l.length = len) (hin : ∀ a : Int, (Op.equalIn d 5 (.int .u8 a) (.int .u8 a)).run Try.prog w = .ok true w) :
    (Op.equalIn (d + 1) t (.agg (nums .u8 l).toArray) (.agg (nums .u8 l).toArray)).run Try.prog w = .ok true w := by
  simp only [Op.equalIn, Sem.run_bind, run_underlying ht, Result.andThen_ok, Try.sizeOf5]
  rw [Std.Legacy.Range.forIn_eq_forIn_range']
  have hmem : ∀ i ∈ List.range' 0 len 1, i < l.length := fun i hi => by
    have := (List.mem_range'_1.1 hi).2
    omega
  simp only [Std.Legacy.Range.size]
  rw [show (len - 0 + 1 - 1) / 1 = len from by omega]
  generalize List.range' 0 len 1 = ks at hmem
  induction ks with
  | nil => simp
  | cons k ks ih =>
    have hp := part_u8 w l k (hmem k List.mem_cons_self)
    have ih2 := ih (fun i hi => hmem i (List.mem_cons_of_mem _ hi))
    simp only [List.forIn_cons, Sem.run_bind, Nat.mul_one, hp, Result.andThen_ok, hin, Bool.not_true, Bool.false_eq_true, if_false, Sem.run_pure, Sem.run_ite]
    simp only [Nat.mul_one] at ih2
    exact ih2
theorem eq_arr (t len : Nat) (ht : Try.prog.underlying t = some (.array len 5)) (w : World) (l : List Int) (hl : l.length = len) :
    (Op.equalIn 10000 t (.agg (nums .u8 l).toArray) (.agg (nums .u8 l).toArray)).run Try.prog w = .ok true w :=
  eq_arr_d 9999 t len ht w l hl (fun a => (run_equalIn_int w 9998 5 .u8 .u8 a a Try.underlying5).trans (by simp))
theorem eql_arr (t len : Nat) (ht : Try.prog.underlying t = some (.array len 5)) (l : List Int) (hl : l.length = len) (w : World) :
    (binOp .eql t (.agg (nums .u8 l).toArray) (.agg (nums .u8 l).toArray)).run Try.prog w = .ok (.bool true) w := by
  rw [run_eql_struct, eq_arr t len ht w l hl]
  rfl
end Go.Proofs.Ytlkddmkfllnnhaa.Dg
