/- chapter 1's law: a Hasher that is none. Own work. -/
import Derived.Test.YtlkddmkfllnnhaaLwC
import Derived.Test.YtlkddmkfllnnhaaDgX
import Derived.Deep.RegionLaw
namespace Go.Proofs.Ytlkddmkfllnnhaa.Dg
set_option linter.unusedVariables false
set_option linter.unusedSimpArgs false
open Go.RowKit Go.Proofs.Ytlkddmkfllnnhaa.Md Go.Proofs.Ytlkddmkfllnnhaa.PL Go.Proofs.YtlkddmkfllnnhaaW.PrintWords Go.Proofs.YtlkddmkfllnnhaaW.PrintLast Go.Proofs.YtlkddmkfllnnhaaW.PrintMore
theorem write_nil (b : Value) (w : World) : Calls Try.prog 22 #[.pointer none, b] w fun e w' => e = .returned (.bool false) ∧ w' = w := by
  go_enter Try.func22, Try.ntmps22
  go_wp2
  go_ret
  exact ⟨rfl, rfl⟩
theorem len_nil (w : World) : Calls Try.prog 24 #[.pointer none] w fun e w' => e = .returned (.int .i64 0) ∧ w' = w := by
  go_enter Try.func24, Try.ntmps24
  go_wp2
  go_ret
  exact ⟨rfl, rfl⟩
set_option maxRecDepth 100000 in
theorem sum_nil (w : World) : Calls Try.prog 23 #[.pointer none] w fun e w' => e = .returned (.agg Z32) ∧ Below w.heap.size w w' := by
  have hz : AB ((w.alloc (.cells #[.pointer none] 41)).alloc (.cells Z32 25)) (w.heap.size + 1) 25 (List.replicate 32 0) := by
    have := heap_alloc_new (w.alloc (.cells #[.pointer none] 41)) (.cells Z32 25)
    rwa [size_alloc] at this
  have HZ := Aside0.mk hz
  clear hz
  go_enter Try.func23, Try.ntmps23
  go_wp2_with (first | (refine wpList_build_eq rfl 25 _ rfl Z32 (by kernel_rfl) ?_) | (refine wpList_store_row rfl 25 (.tmp 2) (.tmp 5) rfl (w.heap.size + 1) Z32 rfl rfl 25 _ HZ.out (by kernel_rfl) (by kernel_rfl) (by kernel_rfl) ?_))
  exact bodyPost_ret (results_cell_row rfl _ _ (w.heap.size + 1) 25 _ (0, 0) _ rfl (setRow_heap _ _ _ _ _ _ HZ.out) Try.underlying25 rfl (by kernel_rfl)) rfl ⟨rfl, below_setRow (below_alloc (below_alloc (Below.refl _ w) _) _) (by omega) _⟩
set_option maxHeartbeats 2000000 in
set_option maxRecDepth 100000 in
theorem lawnothing_any (A : Option Addr) (c : Nat) (l : List Int) (w : World) :
    Calls Try.prog 7 #[.slice A l.length c] w fun e w' => e = .returned (.bool true) ∧ Below w.heap.size w w' := by
  by_cases h3 : 3000 < l.length
  · go_enter Try.func7, Try.ntmps7
    go_wp2
    go_ret
    exact ⟨rfl, Below.refl _ _⟩
  · have heq : ∀ W, (Op.equalIn 10000 25 (.agg Z32) (.agg #[.int .u8 0, .int .u8 0, .int .u8 0, .int .u8 0, .int .u8 0, .int .u8 0, .int .u8 0, .int .u8 0, .int .u8 0, .int .u8 0, .int .u8 0, .int .u8 0, .int .u8 0, .int .u8 0, .int .u8 0, .int .u8 0, .int .u8 0, .int .u8 0, .int .u8 0, .int .u8 0, .int .u8 0, .int .u8 0, .int .u8 0, .int .u8 0, .int .u8 0, .int .u8 0, .int .u8 0, .int .u8 0, .int .u8 0, .int .u8 0, .int .u8 0, .int .u8 0])).run Try.prog W = .ok true W := fun W => eq_arr 25 32 Try.underlying25 W (List.replicate 32 0) rfl
    have hd : decide ((3000 : Int) < (l.length : Int)) = false := decide_eq_false (by omega)
    have hb0 : Below w.heap.size w w.drew := below_drew (Below.refl _ _)
    have HB0 := Aside0.mk hb0
    clear hb0
    go_enter Try.func7, Try.ntmps7
    go_wp2_with (first | (go_at_call 22; (with_reducible refine (write_nil _ _).mono ?_); rintro e w3 ⟨rfl, rfl⟩) | (go_at_call 23; (with_reducible refine (sum_nil _).mono ?_); rintro e w4 ⟨rfl, hb4⟩; have HB4 := Aside0.mk hb4; clear hb4) | (go_at_call 24; (with_reducible refine (len_nil _).mono ?_); rintro e w5 ⟨rfl, rfl⟩) | (go_at_call 13; (with_reducible refine (known_any _).mono ?_); rintro e w7 ⟨rfl, hb7⟩; have HB7 := Aside0.mk (below_then HB4.out HB4.out.size hb7); clear hb7) | (refine wpList_build_eq rfl 25 _ rfl Z32 (by kernel_rfl) ?_))
    go_ret
    exact ⟨rfl, HB7.out⟩
end Go.Proofs.Ytlkddmkfllnnhaa.Dg
