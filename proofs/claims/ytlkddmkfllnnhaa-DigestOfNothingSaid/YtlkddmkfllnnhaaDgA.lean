/- digest: the rounds' numbers. Own work. -/
import Derived.Test.YtlkddmkfllnnhaaMd1
import Derived.Test.YtlkddmkfllnnhaaPL
import Derived.Lib.Hide
import Derived.Outline
import Derived.BigRegion
import Derived.Deep.WholeRow
namespace Go.Proofs.Ytlkddmkfllnnhaa.Dg
set_option linter.unusedVariables false
set_option linter.unusedSimpArgs false
open Go.RowKit Go.Proofs.Ytlkddmkfllnnhaa.Md Go.Proofs.Ytlkddmkfllnnhaa.PL Go.Proofs.YtlkddmkfllnnhaaW.PrintWords Go.Proofs.YtlkddmkfllnnhaaW.PrintLast Go.Proofs.YtlkddmkfllnnhaaW.PrintMore

/-- the rounds' numbers, and the first state -/
def KK : List Int := [1116352408, 1899447441, 3049323471, 3921009573, 961987163, 1508970993, 2453635748, 2870763221, 3624381080, 310598401, 607225278, 1426881987, 1925078388, 2162078206, 2614888103, 3248222580, 3835390401, 4022224774, 264347078, 604807628, 770255983, 1249150122, 1555081692, 1996064986, 2554220882, 2821834349, 2952996808, 3210313671, 3336571891, 3584528711, 113926993, 338241895, 666307205, 773529912, 1294757372, 1396182291, 1695183700, 1986661051, 2177026350, 2456956037, 2730485921, 2820302411, 3259730800, 3345764771, 3516065817, 3600352804, 4094571909, 275423344, 430227734, 506948616, 659060556, 883997877, 958139571, 1322822218, 1537002063, 1747873779, 1955562222, 2024104815, 2227730452, 2361852424, 2428436474, 2756734187, 3204031479, 3329325298]
def H0 : List Int := [1779033703, 3144134277, 1013904242, 2773480762, 1359893119, 2600822924, 528734635, 1541459225]
set_option maxRecDepth 100000 in
set_option maxHeartbeats 1000000 in
theorem begun_any (w : World) : Calls Try.prog 27 #[] w fun e w' => e = .returned (.agg (nums .u32 H0).toArray) ∧ Below w.heap.size w w' := by
  go_enter Try.func27, Try.ntmps27
  go_wp2
  exact bodyPost_ret (results_cell_row rfl _ _ w.heap.size 50 _ (0, 0) _ rfl (heap_alloc_new w _) Try.underlying50 rfl (by kernel_rfl)) rfl ⟨rfl, (Below.refl _ _).alloc (Nat.le_refl _) _⟩
def KA : Array Value := (nums .u32 KK).toArray
theorem wpList_build_eq {P : Program} {ops : Array Oper} {rest : List Oper} {o : Oper} {a : Act} {w : World} {Q : Exit → Act → World → Prop} (hg : o.guard = none) (t : TypeId) (parts : Array (Nat × Operand)) (ho : o.op = .build t parts)
    (cs : Array Value) (hf : P.built t (parts.map fun (i, x) => (i, a.eval x)).toList = some cs) (h : wpList P ops Q rest (a.put o.dst (.agg cs)) w) : wpList P ops Q (o :: rest) a w :=
  wpList_build hg t parts ho (by rw [hf]; rfl) (by rw [hf]; exact h)
set_option maxRecDepth 100000 in
set_option maxHeartbeats 1000000 in
theorem numbers_any (w : World) : Calls Try.prog 41 #[] w fun e w' => e = .returned (.agg KA) ∧ Below w.heap.size w w' := by
  go_enter Try.func41, Try.ntmps41
  go_upto_region 1 with (fail)
  apply wp_region_lit
  refine wpList_build_eq rfl 55 _ rfl KA (by kernel_rfl) ?_
  refine wpList_store_row rfl 55 (.tmp 0) (.tmp 1) rfl w.heap.size KA rfl rfl 55 _ (heap_alloc_new w _) (by kernel_rfl) (by kernel_rfl) (by kernel_rfl) ?_
  rw [World.setRow_alloc_new]
  go_wp2
  exact bodyPost_ret (results_cell_row rfl _ _ w.heap.size 55 _ (0, 0) _ rfl (heap_alloc_new w _) Try.underlying55 rfl (by kernel_rfl)) rfl ⟨rfl, (Below.refl _ _).alloc (Nat.le_refl _) _⟩
set_option maxRecDepth 100000 in
set_option maxHeartbeats 1000000 in
theorem k_any (w : World) : Calls Try.prog 30 #[] w fun e w' => e = .returned (.agg KA) ∧ Below w.heap.size w w' := by
  go_enter Try.func30, Try.ntmps30
  go_upto_region 1 with (fail)
  apply wp_region_lit
  refine wpList_build_eq rfl 55 _ rfl KA (by kernel_rfl) ?_
  refine wpList_store_row rfl 55 (.tmp 0) (.tmp 1) rfl w.heap.size KA rfl rfl 55 _ (heap_alloc_new w _) (by kernel_rfl) (by kernel_rfl) (by kernel_rfl) ?_
  rw [World.setRow_alloc_new]
  go_wp2
  exact bodyPost_ret (results_cell_row rfl _ _ w.heap.size 55 _ (0, 0) _ rfl (heap_alloc_new w _) Try.underlying55 rfl (by kernel_rfl)) rfl ⟨rfl, (Below.refl _ _).alloc (Nat.le_refl _) _⟩
end Go.Proofs.Ytlkddmkfllnnhaa.Dg
