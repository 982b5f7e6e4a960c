/- TreePuts, walked. Own work; printed by gen_ps.py. -/
-- The row: written by a program of this session (row2.py).
import Derived.Test.YtfnofjcdaghniaaDoorRows
import Derived.Test.YtfnofjcdaghniaaDoorPsA
import Derived.Test.YtfnofjcdaghniaaDoorOpen
import Derived.WalkKit
import Derived.ProofKit
import Derived.OpenShut
import Derived.ShutString
import Derived.ChangeOld
import Derived.Below
import Derived.SizedLaws
import Derived.HandedShaped
import Derived.Test.YtfnofjcdaghniaaDoorCards
import Derived.Test.YtfnofjcdaghniaaDoorTie
import Derived.Lib.LaidIn
import Derived.Deep.DeepHandedRow
import Derived.Deep.DeepWitnessRowRef
namespace Go.Proofs.YtfnofjcdaghniaaDoor.treePuts
open Go.ChangeShapes Go.WideShapes Go.ChangeAt Go.RowKit Go.Proofs.YtfnofjcdaghniaaDoorW.PrintWords
open Go.ChangeMaps (open_string shut_string)
set_option linter.unusedVariables false
theorem own : ownKnob Tryd.prog.godebug = none := by kernel_rfl
theorem laidOut : laidOutB Tryd.prog = true := by kernel_rfl
noncomputable def laidWorld (os : Os) : World :=
  let w0 := World.holding Tryd.prog os ⟨#[], #[], []⟩
  let put (h : Array Obj) (g : Nat) (cs : Array Value) : Array Obj := h.modify g fun
    | .cells _ t frozen => .cells cs t frozen
    | o => o
  let h1 := put w0.heap 1 (Go.Pinned.utf8FirstZ.map fun (z : Nat) => Value.int .u8 (z : Int)).toArray
  let h2 := put h1 2 (([128, 191, 160, 191, 128, 159, 144, 191, 128, 143, 0, 0, 0, 0, 0, 0, 0, 0, 0, 0, 0, 0, 0, 0, 0, 0, 0, 0, 0, 0, 0, 0] : List Int).map fun z => Value.int .u8 z).toArray
  { w0 with heap := h2 }
theorem laid_met (os : Os) (args : Array Value) : laidMet Tryd.prog Rows.treePutsRow.laid ((laidWorld os).forCall (fun _ _ => 0) ⟨#[], args, []⟩).memory :=
  (LaidIn.of_run (l := [("unicode/utf8.acceptRanges", Rows.laid_unicode_utf8_acceptRanges), ("unicode/utf8.first", Rows.laid_unicode_utf8_first)]) [2, 1] 8 (by kernel_rfl) (by kernel_rfl) (by kernel_rfl) (by kernel_rfl)).met
theorem witness_row (os : Os) {H : Type} (enc : TypeId × Value → H) :
    (OpenSpec.ofChange Rows.treePutsSpec).preRow enc Tryd.prog Tryd.f6 Rows.treePutsRow.domain false Rows.treePutsRow.laid ((laidWorld os).forCall (fun _ _ => 0) ⟨#[], #[.agg #[.int .i64 0, .bool false, .slice none 0 0, .slice none 0 0, .slice none 0 0], .string ByteArray.empty, .agg #[.int .i64 0, .bool false, .slice none 0 0, .slice none 0 0, .slice none 0 0]], []⟩).memory #[.agg #[.int .i64 0, .bool false, .slice none 0 0, .slice none 0 0, .slice none 0 0], .string ByteArray.empty, .agg #[.int .i64 0, .bool false, .slice none 0 0, .slice none 0 0, .slice none 0 0]] := by
  have hs : (DataW.whole enc Tryd.prog ((laidWorld os).forCall (fun _ _ => 0) ⟨#[], #[.agg #[.int .i64 0, .bool false, .slice none 0 0, .slice none 0 0, .slice none 0 0], .string ByteArray.empty, .agg #[.int .i64 0, .bool false, .slice none 0 0, .slice none 0 0, .slice none 0 0]], []⟩).memory Tryd.f6.params.toList (OpenSpec.ofChange Rows.treePutsSpec).vars false (#[.agg #[.int .i64 0, .bool false, .slice none 0 0, .slice none 0 0, .slice none 0 0], .string ByteArray.empty, .agg #[.int .i64 0, .bool false, .slice none 0 0, .slice none 0 0, .slice none 0 0]] : Array Value).toList 8).isSome = true := by kernel_rfl
  obtain ⟨x, hx⟩ := Option.isSome_iff_exists.1 hs
  exact OpenSpec.preRow_of_cond 8 hx rfl (fun k hk => by cases hk) (by kernel_rfl) (laid_met os _)
set_option maxRecDepth 100000 in
theorem lifted (os : Os) (started : os.Started) (H : Type) (enc : TypeId × Value → H) (F : Stop.Interp) :
    ReturnsInHanded {} Tryd.checked os 6 .any ((OpenSpec.ofChange Rows.treePutsSpec).preRow enc Tryd.prog Tryd.f6 Rows.treePutsRow.domain false Rows.treePutsRow.laid) (((OpenSpec.ofChange Rows.treePutsSpec).at F).post enc Tryd.prog Tryd.f6 false true false false) := by
  refine returnsInHanded_of_row (C := Tryd.checked) (s := OpenSpec.ofChange Rows.treePutsSpec) own started (by kernel_rfl) Tryd.func6
    (witness_row_atRef (enc := enc) (C := Tryd.checked) false (laidWorld os) #[.agg #[.int .i64 0, .bool false, .slice none 0 0, .slice none 0 0, .slice none 0 0], .string ByteArray.empty, .agg #[.int .i64 0, .bool false, .slice none 0 0, .slice none 0 0, .slice none 0 0]] rfl (by kernel_rfl) (by kernel_rfl) (by kernel_rfl) (witness_row os enc)) ?_
  intro W base args ds gs before hval0 hW hcnd _ hsz0 _ hsh _
  have hsz : (DataW.weightsEach Tryd.prog (Tryd.f6.params.toList ++ Rows.treePutsSpec.plain.varTypes Tryd.prog) (ds ++ gs)).all (· ≤ reachBytes) = true := hsz0
  have hval : ∀ (j : Nat) t v, Tryd.f6.params[j]? = some t → args[j]? = some v → Value.okWide Tryd.prog W .any base t v := hval0
  have hW' := hW
  obtain ⟨p, q, hA0, hV, rfl, hfz, hnd⟩ := hW
  have hA : DataW.TrodAll enc Tryd.prog W 0 (fun _ => true) true Tryd.f6.params.toList args.toList ds p := hA0
  rw [Tryd.params6] at hA hval hsz
  obtain ⟨v0, vs0, d0, ds0, p0, q0, hargs, rfl, rfl, h0, r0⟩ := trodAll_cons hA
  obtain ⟨v1, vs1, d1, ds1, p1, q1, rfl, rfl, rfl, h1, r1⟩ := trodAll_cons r0
  obtain ⟨v2, vs2, d2, ds2, p2, q2, rfl, rfl, rfl, h2, r2⟩ := trodAll_cons r1
  obtain ⟨rfl, rfl, rfl⟩ := trodAll_nil r2
  obtain rfl : args = #[v0, v1, v2] := by cases args; simp_all
  obtain ⟨rfl, rfl⟩ := trodVars_none hV
  have k0 := h0
  have lt0 : ∀ x ∈ p0, x.block < W.heap.size := by obtain ⟨m, hm⟩ := k0; exact DataW.trod_lt m _ _ _ hm
  have s0 : (DataW.weights Tryd.prog 26 d0).all (· ≤ reachBytes) = true := by
    rw [List.all_eq_true] at hsz ⊢
    exact fun n hn => hsz n (DataW.weights_mem_each (j := 0) rfl rfl n hn)
  obtain ⟨N0, t0, A2_0, c2_0, A3_0, c3_0, A4_0, c4_0, rfl, x1_0, x2_0, x3_0, x4_0, x5_0, x6_0, g0⟩ := Tree.open_tree Tryd.underlying26 (Tree.op_tree Tryd.underlying26 rfl rfl (by kernel_rfl) (by kernel_rfl) (by kernel_rfl) (by kernel_rfl) (by kernel_rfl) Tryd.underlying3 Tryd.underlying4 Tryd.underlying22 Tryd.underlying5 Tryd.underlying23 Tryd.underlying9 Tryd.underlying24) s0 (hval 0 26 v0 rfl rfl) h0
  obtain ⟨a1, rfl, rfl, rfl, y1⟩ := open_string Tryd.underlying9 (hval 1 9 v1 rfl rfl) h1
  have w1 : a1.size ≤ 140737488351232 := by
    have z := sized_string hsz (j := 1) (t := 9) rfl rfl
    rw [Array.length_toList] at z
    exact z
  have k2 := h2
  have lt2 : ∀ x ∈ p2, x.block < W.heap.size := by obtain ⟨m, hm⟩ := k2; exact DataW.trod_lt m _ _ _ hm
  have s2 : (DataW.weights Tryd.prog 26 d2).all (· ≤ reachBytes) = true := by
    rw [List.all_eq_true] at hsz ⊢
    exact fun n hn => hsz n (DataW.weights_mem_each (j := 2) rfl rfl n hn)
  obtain ⟨N2, t2, A2_2, c2_2, A3_2, c3_2, A4_2, c4_2, rfl, x1_2, x2_2, x3_2, x4_2, x5_2, x6_2, g2⟩ := Tree.open_tree Tryd.underlying26 (Tree.op_tree Tryd.underlying26 rfl rfl (by kernel_rfl) (by kernel_rfl) (by kernel_rfl) (by kernel_rfl) (by kernel_rfl) Tryd.underlying3 Tryd.underlying4 Tryd.underlying22 Tryd.underlying5 Tryd.underlying23 Tryd.underlying9 Tryd.underlying24) s2 (hval 2 26 v2 rfl rfl) h2
  clear hA0 hval0 hsz0 hsz
  refine (Tree.TreePuts_row N0 t0 A2_0 c2_0 A3_0 c3_0 A4_0 c4_0 a1 N2 t2 A2_2 c2_2 A3_2 c3_2 A4_2 c4_2 W ⟨x1_0, x2_0, x3_0, x4_0, x5_0, x6_0⟩ g0 w1 ⟨x1_2, x2_2, x3_2, x4_2, x5_2, x6_2⟩ g2 (Tryd.laysM146.s1_3 W hsh)).mono fun e W' ⟨he, bel0⟩ => ?_
  have bel : Below W.heap.size W W' := bel0
  subst he
  exact ⟨_, rfl, _, _, _, [], _, [], hW', trodAll_mk1 (shut_bool Tryd.underlying4 _), (trodAll_cons_mk (Below.trod laidOut (by kernel_rfl) (of_decide_eq_true (by kernel_rfl)) k0 bel lt0) (trodAll_cons_mk (shut_string Tryd.underlying9 y1) (trodAll_cons_mk (Below.trod laidOut (by kernel_rfl) (of_decide_eq_true (by kernel_rfl)) k2 bel lt2) trodAll_mk0))), rfl, bel.frame _, fun h => by cases h⟩
theorem over : Rows.treePutsRow.holds Tryd.pinned (OpenSpec.ofChange Rows.treePutsSpec) :=
  OpenClaim.holds_of_cond 6 Tryd.f6 rfl rfl rfl rfl rfl rfl rfl ⟨rfl, rfl, rfl, rfl, rfl⟩ rfl rfl rfl rfl rfl (by kernel_rfl) Tryd.func6 (by kernel_rfl)
    (of_decide_eq_true (by kernel_rfl)) (by unfold Func.isWrapper; first | (rw [if_pos (by decide +kernel)]; kernel_rfl) | (rw [if_neg (by decide +kernel)]; exact ⟨rfl, rfl⟩))
    (fun os started H enc _ F => by rw [OpenClaim.pre_eq_preRow]; exact lifted os started H enc F)
theorem proved : Rows.TreePutsSaid := over
theorem plain (f : FuncId) (fn : Func) (hf : Tryd.pinned.checked.prog.funcNamed "pantry/pantrylaw4.TreePuts" = some f) (hfn : Tryd.pinned.checked.prog.funcs[f]? = some fn) :
    false = Tryd.pinned.checked.prog.looks [] ∧ ∀ (j : Nat) t, fn.params[j]? = some t → Tryd.pinned.checked.prog.wantsStandIn t = false := by
  obtain rfl : f = 6 := Option.some.inj ((show Tryd.prog.funcNamed "pantry/pantrylaw4.TreePuts" = some 6 by kernel_rfl).symm.trans hf) |>.symm
  obtain rfl : fn = Tryd.f6 := (Option.some.inj (Tryd.func6.symm.trans hfn)).symm
  refine ⟨by kernel_rfl, fun j t ht => ?_⟩
  rw [Tryd.params6] at ht
  have hm : t ∈ [26, 9, 26] := by have := Array.mem_of_getElem? ht; simpa using this
  have hall : ([26, 9, 26] : List TypeId).all (fun t => Tryd.prog.wantsStandIn t == false) = true := by kernel_rfl
  exact eq_of_beq (List.all_eq_true.1 hall t hm)
theorem card : Rows.TreePutsCardSaid :=
  Claim7.holds_tied_plain_at .later [] _ _ _ _ proved (fun _ h => by cases h) (by kernel_rfl) (fun _ h => by cases h) treePuts_row_tie rfl ⟨rfl, rfl⟩ (by kernel_rfl) rfl plain (by kernel_rfl)
#print axioms card
end Go.Proofs.YtfnofjcdaghniaaDoor.treePuts
namespace Go.Proofs.YtfnofjcdaghniaaDoor
/-- The row, under a short name, for the claim. -/
theorem treePutsCard_holds : Rows.TreePutsCardSaid := treePuts.card
end Go.Proofs.YtfnofjcdaghniaaDoor
