/- For any tree t and any bytes b (no condition): NarSplits(t, b) hands back true. Own work. -/
-- The row: written by a program of this session (row2.py).
import Derived.Test.YthhajkmeadapgaaRows
import Derived.Test.YthhajkmeadapgaaRfK
import Derived.Test.YthhajkmeadapgaaOpen
import Derived.WalkKit
import Derived.ProofKit
import Derived.OpenShut
import Derived.ShutString
import Derived.ChangeOld
import Derived.Below
import Derived.SizedLaws
namespace Go.Proofs.Ythhajkmeadapgaa.narSplits
open Go.ChangeShapes Go.WideShapes Go.ChangeAt Go.RowKit Go.Proofs.YthhajkmeadapgaaW.PrintWords
open Go.ChangeMaps (open_string shut_string)
set_option linter.unusedVariables false
theorem own : ownKnob Try.prog.godebug = none := by kernel_rfl
theorem laidOut : laidOutB Try.prog = true := by kernel_rfl
set_option maxRecDepth 100000 in
theorem lifted (os : Os) (started : os.Started) (H : Type) (enc : TypeId × Value → H) :
    ReturnsInHanded {} Try.checked os 6 .any (Rows.narSplitsSpec.pre6 enc Try.prog Try.f6 Rows.narSplitsRow.domain false) (Rows.narSplitsSpec.post enc Try.prog Try.f6 false true false false) := by
  refine returnsInHanded_of_change_sized (C := Try.checked) own started (by kernel_rfl) Try.func6
    (ChangeSpec.witness6 (enc := enc) (C := Try.checked) false ⟨#[], #[.agg #[.int .i64 0, .bool false, .slice none 0 0, .slice none 0 0, .slice none 0 0], .slice none 0 0], []⟩ 8 (by kernel_rfl) (by kernel_rfl) (by kernel_rfl) (by kernel_rfl)) ?_
  intro W base args ds gs before hval0 hW hcnd hsz0 _
  have hsz : (DataW.weightsEach Try.prog (Try.f6.params.toList ++ Rows.narSplitsSpec.plain.varTypes Try.prog) (ds ++ gs)).all (· ≤ reachBytes) = true := hsz0
  have hval : ∀ (j : Nat) t v, Try.f6.params[j]? = some t → args[j]? = some v → Value.okWide Try.prog W .any base t v := hval0
  have hW' := hW
  obtain ⟨p, q, hA0, hV, rfl, hfz, hnd⟩ := hW
  have hA : DataW.TrodAll enc Try.prog W 0 (fun _ => true) true Try.f6.params.toList args.toList ds p := hA0
  rw [Try.params6] at hA hval hsz
  obtain ⟨v0, vs0, d0, ds0, p0, q0, hargs, rfl, rfl, h0, r0⟩ := trodAll_cons hA
  obtain ⟨v1, vs1, d1, ds1, p1, q1, rfl, rfl, rfl, h1, r1⟩ := trodAll_cons r0
  obtain ⟨rfl, rfl, rfl⟩ := trodAll_nil r1
  obtain rfl : args = #[v0, v1] := by cases args; simp_all
  obtain ⟨rfl, rfl⟩ := trodVars_none hV
  have k0 := h0
  have lt0 : ∀ x ∈ p0, x.block < W.heap.size := by obtain ⟨m, hm⟩ := k0; exact DataW.trod_lt m _ _ _ hm
  have s0 : (DataW.weights Try.prog 26 d0).all (· ≤ reachBytes) = true := by
    rw [List.all_eq_true] at hsz ⊢
    exact fun n hn => hsz n (DataW.weights_mem_each (j := 0) rfl rfl n hn)
  obtain ⟨N0, t0, A2_0, c2_0, A3_0, c3_0, A4_0, c4_0, rfl, x1_0, x2_0, x3_0, x4_0, x5_0, x6_0, g0⟩ := Tree.open_tree Try.underlying26 (Tree.op_tree Try.underlying26 rfl rfl (by kernel_rfl) (by kernel_rfl) (by kernel_rfl) (by kernel_rfl) (by kernel_rfl) Try.underlying3 Try.underlying4 Try.underlying22 Try.underlying5 Try.underlying23 Try.underlying9 Try.underlying24) s0 (hval 0 26 v0 rfl rfl) h0
  obtain ⟨a1, len1, cap1, rfl⟩ := okWide_slice Try.underlying22 (hval 1 22 v1 rfl rfl)
  have k1 := h1
  have lt1 : ∀ x ∈ p1, x.block < W.heap.size := by obtain ⟨m, hm⟩ := k1; exact DataW.trod_lt m _ _ _ hm
  obtain ⟨l1, rfl, hc1, hr1, m1, y1, g1⟩ := Open.arg_slice (d := (Kd.int .u8)) (j := 1) Try.underlying22 (by kernel_rfl) (show Try.prog.bytesOf 5 = 1 by kernel_rfl) (fun n => Open.op_int Try.underlying5 n) hsz rfl rfl h1
  clear hA0 hval0 hsz0 hsz
  refine (Tree.NarSplits_row N0 t0 A2_0 c2_0 A3_0 c3_0 A4_0 c4_0 a1 cap1 l1 W ⟨x1_0, x2_0, x3_0, x4_0, x5_0, x6_0⟩ g0 hr1 hc1 m1 y1 g1).mono fun e W' ⟨he, bel0⟩ => ?_
  have bel : Below W.heap.size W W' := bel0
  subst he
  exact ⟨_, rfl, _, _, _, [], _, [], hW', trodAll_mk1 (shut_bool Try.underlying4 _), (trodAll_cons_mk (Below.trod laidOut (by kernel_rfl) (of_decide_eq_true (by kernel_rfl)) k0 bel lt0) (trodAll_cons_mk (Below.trod laidOut (by kernel_rfl) (of_decide_eq_true (by kernel_rfl)) k1 bel lt1) trodAll_mk0)), rfl, bel.frame _, fun h => by cases h⟩
theorem over : Rows.narSplitsRow.holds Try.pinned (OpenSpec.ofChange Rows.narSplitsSpec) :=
  OpenClaim.holds_of_wide 6 Try.f6 rfl rfl rfl rfl rfl rfl rfl ⟨rfl, rfl, rfl, rfl, rfl⟩ rfl rfl rfl rfl rfl (by kernel_rfl) Try.func6 (by kernel_rfl)
    (of_decide_eq_true (by kernel_rfl)) (by unfold Func.isWrapper; first | (rw [if_pos (by decide +kernel)]; kernel_rfl) | (rw [if_neg (by decide +kernel)]; exact ⟨rfl, rfl⟩))
    (fun os started H enc _ => lifted os started H enc)
theorem proved : Rows.NarSplitsSaid := over
#print axioms proved
end Go.Proofs.Ythhajkmeadapgaa.narSplits
namespace Go.Proofs.Ythhajkmeadapgaa
/-- The row, under a short name, for the claim. -/
theorem narSplits_holds : Rows.NarSplitsSaid := narSplits.proved
end Go.Proofs.Ythhajkmeadapgaa
