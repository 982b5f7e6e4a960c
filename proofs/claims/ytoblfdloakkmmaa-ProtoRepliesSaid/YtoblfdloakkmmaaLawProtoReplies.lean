/- For every Reply: its frame, or the refusal, is the reference's, and what is read of the frame, whatever stands behind it, is that Reply. No condition. -/
-- The row: written by a program of this session (myrow.py).
import Derived.Test.YtoblfdloakkmmaaRows
import Derived.Test.YtoblfdloakkmmaaMs1
import Derived.Test.YtoblfdloakkmmaaPureProtoReplies
import Derived.Test.YtoblfdloakkmmaaOpen
import Derived.WalkKit
import Derived.ProofKit
import Derived.OpenShut
import Derived.ShutString
import Derived.ChangeOld
import Derived.Below
import Derived.SizedLaws
import Derived.Lib.SmallJoins
namespace Go.Proofs.Ytoblfdloakkmmaa.protoReplies
open Go.ChangeShapes Go.WideShapes Go.ChangeAt Go.RowKit Go.Proofs.YtoblfdloakkmmaaW.PrintWords
open Go.ChangeMaps (open_string shut_string)
set_option linter.unusedVariables false
theorem own : ownKnob Try.prog.godebug = none := by kernel_rfl
theorem laidOut : laidOutB Try.prog = true := by kernel_rfl
set_option maxRecDepth 100000 in
theorem lifted (os : Os) (started : os.Started) (H : Type) (enc : TypeId × Value → H) :
    ReturnsInHanded {} Try.checked os 8 .any (Rows.protoRepliesSpec.pre6 enc Try.prog Try.f8 Rows.protoRepliesRow.domain false) (Rows.protoRepliesSpec.post enc Try.prog Try.f8 false true false false) := by
  refine returnsInHanded_of_change_sized (C := Try.checked) own started (by kernel_rfl) Try.func8
    (ChangeSpec.witness6 (enc := enc) (C := Try.checked) false ⟨#[], #[.agg #[.int .i64 0, .slice none 0 0, .string ByteArray.empty, .int .i64 0], .slice none 0 0], []⟩ 8 (by kernel_rfl) (by kernel_rfl) (by kernel_rfl) (by kernel_rfl)) ?_
  intro W base args ds gs before hval0 hW hcnd hsz0 _
  have hsz : (DataW.weightsEach Try.prog (Try.f8.params.toList ++ Rows.protoRepliesSpec.plain.varTypes Try.prog) (ds ++ gs)).all (· ≤ reachBytes) = true := hsz0
  have hval : ∀ (j : Nat) t v, Try.f8.params[j]? = some t → args[j]? = some v → Value.okWide Try.prog W .any base t v := hval0
  have hW' := hW
  obtain ⟨p, q, hA0, hV, rfl, hfz, hnd⟩ := hW
  have hA : DataW.TrodAll enc Try.prog W 0 (fun _ => true) true Try.f8.params.toList args.toList ds p := hA0
  rw [Try.params8] at hA hval hsz
  obtain ⟨v0, vs0, d0, ds0, p0, q0, hargs, rfl, rfl, h0, r0⟩ := trodAll_cons hA
  obtain ⟨v1, vs1, d1, ds1, p1, q1, rfl, rfl, rfl, h1, r1⟩ := trodAll_cons r0
  obtain ⟨rfl, rfl, rfl⟩ := trodAll_nil r1
  obtain rfl : args = #[v0, v1] := by cases args; simp_all
  obtain ⟨rfl, rfl⟩ := trodVars_none hV
  have k0 := h0
  have lt0 : ∀ x ∈ p0, x.block < W.heap.size := by obtain ⟨m, hm⟩ := k0; exact DataW.trod_lt m _ _ _ hm
  have hs0 : (DataW.weights Try.prog 48 d0).all (· ≤ reachBytes) = true := by
    rw [List.all_eq_true] at hsz ⊢
    exact fun n hn => hsz n (DataW.weights_mem_each (j := 0) rfl rfl n hn)
  obtain ⟨e0, e1, e2, e3, z0, z1, z2, z3, m, rfl, rfl, hpp, t0, t1, t2, t3⟩ := Go.Joins.open_agg4 Try.underlying48 (by kernel_rfl) (show Try.prog.cellsOf 48 = 4 by kernel_rfl) (hval 0 48 v0 rfl rfl) h0
  simp only [DataW.weights, Try.underlying48, DataW.weightsEach, List.map_cons, List.map_nil, List.all_append, Bool.and_eq_true] at hs0
  obtain ⟨u0, u1, u2, u3, _⟩ := hs0
  obtain ⟨a0, hK0, w0⟩ := Open.op_int Try.underlying28 m _ _ _ _ _ _ t0 u0
  obtain ⟨l0, ⟨A0, C0, hK1, hc0, hr0⟩, m0, y0, g0⟩ := Open.op_slice (d := Kd.string) Try.underlying46 (by kernel_rfl) (show Try.prog.bytesOf 55 = 16 by kernel_rfl) m (fun n _ => Open.op_string Try.underlying55 n) _ _ _ _ _ _ t1 u1
  obtain ⟨s0, hK2, w2⟩ := Open.op_string Try.underlying9 m _ _ _ _ _ _ t2 u2
  obtain ⟨n0, hK3, w3⟩ := Open.op_int Try.underlying3 m _ _ _ _ _ _ t3 u3
  obtain rfl : e0 = .int .i64 a0 := by have := hK0; exact (List.cons.inj this).1
  obtain rfl : e1 = .slice A0 l0.length C0 := (List.cons.inj hK1).1
  obtain rfl : e2 = .string s0 := by have := hK2; exact (List.cons.inj this).1
  obtain rfl : e3 = .int .i64 n0 := by have := hK3; exact (List.cons.inj this).1
  obtain ⟨a1, len1, cap1, rfl⟩ := okWide_slice Try.underlying27 (hval 1 27 v1 rfl rfl)
  have k1 := h1
  have lt1 : ∀ x ∈ p1, x.block < W.heap.size := by obtain ⟨m, hm⟩ := k1; exact DataW.trod_lt m _ _ _ hm
  obtain ⟨l1, rfl, hc1, hr1, m1, y1, g1⟩ := Open.arg_slice (d := (Kd.int .u8)) (j := 1) Try.underlying27 (by kernel_rfl) (show Try.prog.bytesOf 5 = 1 by kernel_rfl) (fun n => Open.op_int Try.underlying5 n) hsz rfl rfl h1
  clear hA0 hval0 hsz0 hsz
  obtain ⟨k, hf⟩ := Pure.ProtoReplies a0 l0 s0 n0 l1 w0 m0 y0 g0 w2 w3 m1 y1 g1
  refine (Ms.pantrylaw26_ProtoReplies.calls k a0 A0 C0 l0 s0 n0 a1 cap1 l1 true W hr0 hc0 hr1 hc1 hf).mono fun e W' ⟨he, bel0⟩ => ?_
  have bel : Below W.heap.size W W' := bel0
  subst he
  exact ⟨_, rfl, _, _, _, [], _, [], hW', trodAll_mk1 (shut_bool Try.underlying4 _), (trodAll_cons_mk (Below.trod laidOut (by kernel_rfl) (of_decide_eq_true (by kernel_rfl)) k0 bel lt0) (trodAll_cons_mk (Below.trod laidOut (by kernel_rfl) (of_decide_eq_true (by kernel_rfl)) k1 bel lt1) trodAll_mk0)), rfl, bel.frame _, fun h => by cases h⟩
theorem over : Rows.protoRepliesRow.holds Try.pinned (OpenSpec.ofChange Rows.protoRepliesSpec) :=
  OpenClaim.holds_of_wide 8 Try.f8 rfl rfl rfl rfl rfl rfl rfl ⟨rfl, rfl, rfl, rfl, rfl⟩ rfl rfl rfl rfl rfl (by kernel_rfl) Try.func8 (by kernel_rfl)
    (of_decide_eq_true (by kernel_rfl)) (by unfold Func.isWrapper; first | (rw [if_pos (by decide +kernel)]; kernel_rfl) | (rw [if_neg (by decide +kernel)]; exact ⟨rfl, rfl⟩))
    (fun os started H enc _ => lifted os started H enc)
theorem proved : Rows.ProtoRepliesSaid := over
#print axioms proved
end Go.Proofs.Ytoblfdloakkmmaa.protoReplies
namespace Go.Proofs.Ytoblfdloakkmmaa
/-- The row, under a short name, for the claim. -/
theorem protoReplies_holds : Rows.ProtoRepliesSaid := protoReplies.proved
end Go.Proofs.Ytoblfdloakkmmaa
