-- Laid by a program of this session out of the kit's print, changed; see NOTES.md
import Derived.Test.YtoblfdloakkmmaaMp0
import Derived.Test.YtoblfdloakkmmaaMp1
namespace Go.Proofs.Ytoblfdloakkmmaa.Mp
open Go.RowKit Go.Proofs.YtoblfdloakkmmaaW.PrintWords Go.Proofs.YtoblfdloakkmmaaW.PrintLast Go.Proofs.YtoblfdloakkmmaaW.PrintMore
attribute [local go_sem] max2_int min2_int max_two min_two max_three min_three max_four min_four   -- for this text's walks alone
set_option linter.unusedVariables false
set_option linter.unusedSimpArgs false

/-! ### proto_EncodeReply: function 22 -/
mutual
def proto_EncodeReply.j0 : Nat → Bool → Int → List ByteArray → ByteArray → Int → Option (List Int × Int)
  | 0, _, _, _, _, _ => none
  | k + 1, x7, x313000, x313001, x313002, x313003 => if x7 = true then (some (([] : List Int), 1)) else (if (x313001.length : Int) > 1024 then (some (([] : List Int), 5)) else ((proto_little.f k ([] : List Int) (IntKind.u64.wrap (x313000)) 8).bind fun t313 => ((proto_little.f k t313 (IntKind.u64.wrap (x313003)) 8).bind fun t316 => ((proto_little.f k t316 (IntKind.u64.wrap ((x313001.length : Int))) 4).bind fun t319 => (proto_EncodeReply.l0 k t319 x313001 (x313001.length : Int) 0 x313000 x313001 x313002 x313003)))))
def proto_EncodeReply.l0 : Nat → List Int → List ByteArray → Int → Int → Int → List ByteArray → ByteArray → Int → Option (List Int × Int)
  | 0, _, _, _, _, _, _, _, _ => none
  | k + 1, x4, x36, x37, x38, x313000, x313001, x313002, x313003 => if x38 < x37 then (if 0 ≤ x38 then (if x38 < (x36.length : Int) then (if ((rdOf ByteArray.empty x36 x38).size : Int) > (wrap64 (4194304 - (x4.length : Int))) then (some (([] : List Int), 5)) else ((proto_text.f k x4 (rdOf ByteArray.empty x36 x38)).bind fun t323 => (proto_EncodeReply.l0 k t323 x36 x37 (wrap64 (x38 + 1)) x313000 x313001 x313002 x313003))) else (none)) else (none)) else (if (x4.length : Int) > 4194304 then (proto_EncodeReply.j2 k x4 true x313000 x313001 x313002 x313003) else (proto_EncodeReply.j2 k x4 (decide ((x313002.size : Int) > (wrap64 (4194304 - (x4.length : Int))))) x313000 x313001 x313002 x313003))
def proto_EncodeReply.j2 : Nat → List Int → Bool → Int → List ByteArray → ByteArray → Int → Option (List Int × Int)
  | 0, _, _, _, _, _, _ => none
  | k + 1, x4, x63, x313000, x313001, x313002, x313003 => if x63 = true then (some (([] : List Int), 5)) else ((proto_text.f k x4 x313002).bind fun t326 => (if (t326.length : Int) > 4194304 then (some (([] : List Int), 5)) else ((proto_frame.f k 200 t326).bind fun t329 => (some (t329, 0)))))
end
def proto_EncodeReply.f (k : Nat) (a0_0 : Int) (l0_1 : List ByteArray) (a0_2 : ByteArray) (a0_3 : Int) : Option (List Int × Int) := if a0_0 < 0 then (proto_EncodeReply.j0 k true a0_0 l0_1 a0_2 a0_3) else (proto_EncodeReply.j0 k (decide (a0_0 > 100)) a0_0 l0_1 a0_2 a0_3)
theorem proto_EncodeReply.mono_l : ∀ k, (∀ y0 y1 y2 y3 y4, LeO (proto_EncodeReply.j0 k y0 y1 y2 y3 y4) (proto_EncodeReply.j0 (k + 1) y0 y1 y2 y3 y4)) ∧ (∀ y0 y1 y2 y3 y4 y5 y6 y7, LeO (proto_EncodeReply.l0 k y0 y1 y2 y3 y4 y5 y6 y7) (proto_EncodeReply.l0 (k + 1) y0 y1 y2 y3 y4 y5 y6 y7)) ∧ (∀ y0 y1 y2 y3 y4 y5, LeO (proto_EncodeReply.j2 k y0 y1 y2 y3 y4 y5) (proto_EncodeReply.j2 (k + 1) y0 y1 y2 y3 y4 y5))
  | 0 => ⟨fun _ _ _ _ _ r h => by simp [proto_EncodeReply.j0] at h, fun _ _ _ _ _ _ _ _ r h => by simp [proto_EncodeReply.l0] at h, fun _ _ _ _ _ _ r h => by simp [proto_EncodeReply.j2] at h⟩
  | k + 1 => by
    obtain ⟨ih0, ih1, ih2⟩ := proto_EncodeReply.mono_l k
    refine ⟨?_, ?_, ?_⟩
    · intro y0 y1 y2 y3 y4
      unfold proto_EncodeReply.j0
      repeat' first
      | (with_reducible exact ih0 _ _ _ _ _)
      | (with_reducible exact ih1 _ _ _ _ _ _ _ _)
      | (with_reducible exact ih2 _ _ _ _ _ _)
      | (with_reducible exact proto_frame.mono _ _ _)
      | (with_reducible exact proto_little.mono _ _ _ _)
      | (with_reducible exact proto_text.mono _ _ _)
      | (with_reducible exact LeO.refl _)
      | (with_reducible exact LeO.none _)
      | (with_reducible refine LeO.ite ?_ ?_)
      | (with_reducible refine LeO.bind ?_ (fun _ => ?_))
      | exact ih0 _ _ _ _ _
      | exact ih1 _ _ _ _ _ _ _ _
      | exact ih2 _ _ _ _ _ _
      | exact proto_frame.mono _ _ _
      | exact proto_little.mono _ _ _ _
      | exact proto_text.mono _ _ _
      | exact LeO.none _
      | refine LeO.ite ?_ ?_
      | refine LeO.bind ?_ (fun _ => ?_)
    · intro y0 y1 y2 y3 y4 y5 y6 y7
      unfold proto_EncodeReply.l0
      repeat' first
      | (with_reducible exact ih0 _ _ _ _ _)
      | (with_reducible exact ih1 _ _ _ _ _ _ _ _)
      | (with_reducible exact ih2 _ _ _ _ _ _)
      | (with_reducible exact proto_frame.mono _ _ _)
      | (with_reducible exact proto_little.mono _ _ _ _)
      | (with_reducible exact proto_text.mono _ _ _)
      | (with_reducible exact LeO.refl _)
      | (with_reducible exact LeO.none _)
      | (with_reducible refine LeO.ite ?_ ?_)
      | (with_reducible refine LeO.bind ?_ (fun _ => ?_))
      | exact ih0 _ _ _ _ _
      | exact ih1 _ _ _ _ _ _ _ _
      | exact ih2 _ _ _ _ _ _
      | exact proto_frame.mono _ _ _
      | exact proto_little.mono _ _ _ _
      | exact proto_text.mono _ _ _
      | exact LeO.none _
      | refine LeO.ite ?_ ?_
      | refine LeO.bind ?_ (fun _ => ?_)
    · intro y0 y1 y2 y3 y4 y5
      unfold proto_EncodeReply.j2
      repeat' first
      | (with_reducible exact ih0 _ _ _ _ _)
      | (with_reducible exact ih1 _ _ _ _ _ _ _ _)
      | (with_reducible exact ih2 _ _ _ _ _ _)
      | (with_reducible exact proto_frame.mono _ _ _)
      | (with_reducible exact proto_little.mono _ _ _ _)
      | (with_reducible exact proto_text.mono _ _ _)
      | (with_reducible exact LeO.refl _)
      | (with_reducible exact LeO.none _)
      | (with_reducible refine LeO.ite ?_ ?_)
      | (with_reducible refine LeO.bind ?_ (fun _ => ?_))
      | exact ih0 _ _ _ _ _
      | exact ih1 _ _ _ _ _ _ _ _
      | exact ih2 _ _ _ _ _ _
      | exact proto_frame.mono _ _ _
      | exact proto_little.mono _ _ _ _
      | exact proto_text.mono _ _ _
      | exact LeO.none _
      | refine LeO.ite ?_ ?_
      | refine LeO.bind ?_ (fun _ => ?_)
theorem proto_EncodeReply.mono : ∀ a0 a1 a2 a3 k, LeO (proto_EncodeReply.f k a0 a1 a2 a3) (proto_EncodeReply.f (k + 1) a0 a1 a2 a3) := by
  intro a0 a1 a2 a3 k
  obtain ⟨ih0, ih1, ih2⟩ := proto_EncodeReply.mono_l k
  unfold proto_EncodeReply.f
  repeat' first
      | (with_reducible exact ih0 _ _ _ _ _)
      | (with_reducible exact ih1 _ _ _ _ _ _ _ _)
      | (with_reducible exact ih2 _ _ _ _ _ _)
      | (with_reducible exact proto_frame.mono _ _ _)
      | (with_reducible exact proto_little.mono _ _ _ _)
      | (with_reducible exact proto_text.mono _ _ _)
      | (with_reducible exact LeO.refl _)
      | (with_reducible exact LeO.none _)
      | (with_reducible refine LeO.ite ?_ ?_)
      | (with_reducible refine LeO.bind ?_ (fun _ => ?_))
      | exact ih0 _ _ _ _ _
      | exact ih1 _ _ _ _ _ _ _ _
      | exact ih2 _ _ _ _ _ _
      | exact proto_frame.mono _ _ _
      | exact proto_little.mono _ _ _ _
      | exact proto_text.mono _ _ _
      | exact LeO.none _
      | refine LeO.ite ?_ ?_
      | refine LeO.bind ?_ (fun _ => ?_)
def proto_EncodeReply.T5 : Bool × List (List Nat × List Nat) := (true, [([], []), ([0], [0]), ([1], [1]), ([2], [2]), ([], []), ([4], [4]), ([5], [5]), ([3, 6, 3], [3, 6]), ([7, 7, 0, 1, 2, 3, 4, 5, 6, 7], [7])])
def proto_EncodeReply.B5 : List Nat := [0, 1, 3, 7, 0, 16, 48, 127, 255]
theorem proto_EncodeReply.tab5 : rtab .any (opsOf Try.f22 5) = proto_EncodeReply.T5 := by kernel_rfl
theorem proto_EncodeReply.bits5 : waitsOk proto_EncodeReply.T5.2 proto_EncodeReply.B5 = true := by kernel_rfl
set_option maxHeartbeats 8000000 in
set_option maxRecDepth 100000 in
theorem proto_EncodeReply.calls (k : Nat) (a0_0 : Int) (A0_1 : Option Addr) (c0_1 : Nat) (l0_1 : List ByteArray) (a0_2 : ByteArray) (a0_3 : Int) (r1 : List Int) (r2 : Int) (w : World) (hr0_1 : Kd.C Kd.string w A0_1 l0_1.length l0_1) (hc0_1 : l0_1.length ≤ c0_1) (h : proto_EncodeReply.f k a0_0 l0_1 a0_2 a0_3 = some (r1, r2)) :
    Calls Try.prog 22 #[.agg #[.int .i64 a0_0, .slice A0_1 l0_1.length c0_1, .string a0_2, .int .i64 a0_3]] w fun e w' => ∃ v0_ : Value, e = .returned (.tuple #[v0_, .int .i64 r2]) ∧ Kd.R (Kd.int .u8) 5 w' w.heap.size (fun _ => True) v0_ r1 ∧ Below w.heap.size w w' := by
  have hu48 := Try.underlying48
  have HR0_1 := Aside0.mk hr0_1
  have HC0_1 := Aside0.mk hc0_1
  clear hr0_1 hc0_1
  have HB := Aside0.mk (Below.refl w.heap.size w)
  have H : (if a0_0 < 0 then (proto_EncodeReply.j0 k true a0_0 l0_1 a0_2 a0_3) else (proto_EncodeReply.j0 k (decide (a0_0 > 100)) a0_0 l0_1 a0_2 a0_3)) = some (r1, r2) := h
  clear h
  have HC2 := Aside0.mk H
  clear H
  go_enter Try.func22, Try.ntmps22
  go_upto_region 1 with (first | ((with_reducible refine gate_dst (N := 1) rfl ?_); (try (refine gate_guard (by rfl) ?_; dsimp only)); refine box_event ?hg (N := 1) ?hd (cs := #[.int .i64 a0_0, .slice A0_1 l0_1.length c0_1, .string a0_2, .int .i64 a0_3]) (t := 48) ?hr ?_; (case hd => rfl); (case hg => rfl); (case hr => first | (go_simp; done) | (go_simp; rfl)); intro gb312 hg w3 hbox hb; have n0_ := Aside0.mk (below_step (by repeat (first | (with_reducible first | exact HB.out | apply below_alloc | apply pw_below_drewN | apply below_drew1) | exact HB.out)) hb); have n1_ := Aside0.mk (hbox); have n2_ := Aside0.mk ((by rw [hg]; exact (below_size (by repeat (first | (with_reducible first | exact HB.out | apply below_alloc | apply pw_below_drewN | apply below_drew1) | exact HB.out))) : w.heap.size ≤ gb312)); have n3_ := Aside0.mk ((by rw [hg]; exact (below_size (by repeat (first | (with_reducible first | exact HB.out | apply below_alloc | apply pw_below_drewN | apply below_drew1) | exact HB.out))) : w.heap.size ≤ gb312)); clear HB; have HB := n0_; have BK312 := n1_; have GW312 := n2_; have GE312 := n3_; clear n0_ n1_ n2_ n3_; clear hb hbox hg))
  (try simp only [Act.put, List.setIfInBounds_toArray, List.set_cons_zero, List.set_cons_succ])
  go_cut [7] (fun v7 wc => ∃ (kq : Nat) (x7_1 : Bool), v7 = .bool x7_1 ∧ Aside0 (proto_EncodeReply.j0 kq x7_1 a0_0 l0_1 a0_2 a0_3 = some (r1, r2)) ∧ Aside0 (kq ≤ k) ∧ Aside0 (wc.heap[gb312]? = some (.cells #[.int .i64 a0_0, (.slice A0_1 l0_1.length c0_1), .string a0_2, .int .i64 a0_3] 48 (0, 0))) ∧ Aside0 (Below w.heap.size w wc))
  case first =>
    have H := HC2.out
    clear HC2
    by_cases c4 : a0_0 < 0
    · rw [if_pos c4] at H
      have c4b0 : decide (a0_0 < 0) = true := decide_eq_true c4
      clear c4
      (first | rw [c4b0] | (simp only [i64_w, i32_w]; rw [c4b0]) | skip)
      have H' := Aside0.mk H
      clear H
      have hcz5_0 : w3.cell? ⟨gb312, 0, none⟩ = some (.int .i64 a0_0) := (blk_cell BK312.out 0).trans rfl
      have hcz5_1 : w3.cell? ⟨gb312, 1, none⟩ = some (.slice A0_1 l0_1.length c0_1) := (blk_cell BK312.out 1).trans rfl
      have hcz5_2 : w3.cell? ⟨gb312, 2, none⟩ = some (.string a0_2) := (blk_cell BK312.out 2).trans rfl
      have hcz5_3 : w3.cell? ⟨gb312, 3, none⟩ = some (.int .i64 a0_3) := (blk_cell BK312.out 3).trans rfl
      have hfz5_0 := blk_frozen BK312.out 0
      have hfz5_1 := blk_frozen BK312.out 1
      have hfz5_2 := blk_frozen BK312.out 2
      have hfz5_3 := blk_frozen BK312.out 3
      go_wp2
      go_meet
      case rel => exact ⟨_, (true), (by first | rfl | (simp; done) | (simp [*]; done)), H', ⟨by first | omega | exact Nat.le_refl _⟩, ⟨by (with_reducible repeat (first | refine blk_drewN ?_ _ | refine blk_drew ?_ | refine blk_alloc ?_ _)); exact BK312.out⟩, ⟨by repeat (first | (with_reducible first | exact HB.out | apply below_alloc | apply pw_below_drewN | apply below_drew1 | refine below_set ?_ GE312.out) | exact HB.out)⟩⟩
    · rw [if_neg c4] at H
      have c4b0 : decide (a0_0 < 0) = false := decide_eq_false c4
      clear c4
      (first | rw [c4b0] | (simp only [i64_w, i32_w]; rw [c4b0]) | skip)
      have H' := Aside0.mk H
      clear H
      have hcz6_0 : w3.cell? ⟨gb312, 0, none⟩ = some (.int .i64 a0_0) := (blk_cell BK312.out 0).trans rfl
      have hcz6_1 : w3.cell? ⟨gb312, 1, none⟩ = some (.slice A0_1 l0_1.length c0_1) := (blk_cell BK312.out 1).trans rfl
      have hcz6_2 : w3.cell? ⟨gb312, 2, none⟩ = some (.string a0_2) := (blk_cell BK312.out 2).trans rfl
      have hcz6_3 : w3.cell? ⟨gb312, 3, none⟩ = some (.int .i64 a0_3) := (blk_cell BK312.out 3).trans rfl
      have hfz6_0 := blk_frozen BK312.out 0
      have hfz6_1 := blk_frozen BK312.out 1
      have hfz6_2 := blk_frozen BK312.out 2
      have hfz6_3 := blk_frozen BK312.out 3
      go_wp2
      go_meet
      case rel => exact ⟨_, (decide (a0_0 > 100)), (by first | rfl | (simp; done) | (simp [*]; done)), H', ⟨by first | omega | exact Nat.le_refl _⟩, ⟨by (with_reducible repeat (first | refine blk_drewN ?_ _ | refine blk_drew ?_ | refine blk_alloc ?_ _)); exact BK312.out⟩, ⟨by repeat (first | (with_reducible first | exact HB.out | apply below_alloc | apply pw_below_drewN | apply below_drew1 | refine below_set ?_ GE312.out) | exact HB.out)⟩⟩
  case rest =>
    clear HC2
    try clear c2
    try clear p2
    try clear c4
    try clear c4b0
    try clear hcz5_0
    try clear hcz5_1
    try clear hcz5_2
    try clear hcz5_3
    try clear hcz6_0
    try clear hcz6_1
    try clear hcz6_2
    try clear hcz6_3
    try clear hfz5_0
    try clear hfz5_1
    try clear hfz5_2
    try clear hfz5_3
    try clear hfz6_0
    try clear hfz6_1
    try clear hfz6_2
    try clear hfz6_3
    obtain ⟨kq, x7_1, rfl, HA, HJ1, BK312, HB⟩ := hcut
    cases kq with
    | zero => exact absurd HA.out (by simp [proto_EncodeReply.j0])
    | succ kj1 =>
      have H := HA.out
      clear HA
      simp only [proto_EncodeReply.j0] at H
      by_cases c7 : x7_1 = true
      · subst c7
        have H1 : (some (([] : List Int), 1)) = some (r1, r2) := by rw [if_pos rfl] at H; exact H
        clear H
        have H := H1
        clear H1
        simp only [Option.some.injEq, Prod.mk.injEq] at H
        obtain ⟨rfl, rfl⟩ := H
        go_wp2
        go_ret2
        exact ⟨_, by first | rfl | (simp [errW_none, errW_some] <;> rfl) | (simp [*, errW_none, errW_some] <;> rfl), by first | exact Kd.R_nil _ _ _ _ _ | exact Kd.N_nil _ _ _ _ _ | exact Kd.V_nil _ _ _ _ _ | exact Kd.Q_nil _ _ _ _ _ | exact Kd.S_nil _ _ _ _ _, by repeat (first | (with_reducible first | exact HB.out | apply below_alloc | apply pw_below_drewN | apply below_drew1 | refine below_set ?_ GE312.out) | exact HB.out)⟩
      · replace c7 := Bool.eq_false_iff.mpr c7
        subst c7
        have H1 : (if (l0_1.length : Int) > 1024 then (some (([] : List Int), 5)) else ((proto_little.f kj1 ([] : List Int) (IntKind.u64.wrap (a0_0)) 8).bind fun t313 => ((proto_little.f kj1 t313 (IntKind.u64.wrap (a0_3)) 8).bind fun t316 => ((proto_little.f kj1 t316 (IntKind.u64.wrap ((l0_1.length : Int))) 4).bind fun t319 => (proto_EncodeReply.l0 kj1 t319 l0_1 (l0_1.length : Int) 0 a0_0 l0_1 a0_2 a0_3))))) = some (r1, r2) := by rw [if_neg (show ¬ (false = true) by decide)] at H; exact H
        clear H
        have H := H1
        clear H1
        by_cases c8 : (l0_1.length : Int) > 1024
        · rw [if_pos c8] at H
          have c8b0 : decide (1024 < (l0_1.length : Int)) = true := decide_eq_true c8
          have c8b1 : decide (1024 < l0_1.length) = true := decide_eq_true (by omega)
          clear c8
          simp only [Option.some.injEq, Prod.mk.injEq] at H
          obtain ⟨rfl, rfl⟩ := H
          have hcz9_0 : wc.cell? ⟨gb312, 0, none⟩ = some (.int .i64 a0_0) := (blk_cell BK312.out 0).trans rfl
          have hcz9_1 : wc.cell? ⟨gb312, 1, none⟩ = some (.slice A0_1 l0_1.length c0_1) := (blk_cell BK312.out 1).trans rfl
          have hcz9_2 : wc.cell? ⟨gb312, 2, none⟩ = some (.string a0_2) := (blk_cell BK312.out 2).trans rfl
          have hcz9_3 : wc.cell? ⟨gb312, 3, none⟩ = some (.int .i64 a0_3) := (blk_cell BK312.out 3).trans rfl
          have hfz9_0 := blk_frozen BK312.out 0
          have hfz9_1 := blk_frozen BK312.out 1
          have hfz9_2 := blk_frozen BK312.out 2
          have hfz9_3 := blk_frozen BK312.out 3
          go_wp2
          go_ret2
          exact ⟨_, by first | rfl | (simp [errW_none, errW_some] <;> rfl) | (simp [*, errW_none, errW_some] <;> rfl), by first | exact Kd.R_nil _ _ _ _ _ | exact Kd.N_nil _ _ _ _ _ | exact Kd.V_nil _ _ _ _ _ | exact Kd.Q_nil _ _ _ _ _ | exact Kd.S_nil _ _ _ _ _, by repeat (first | (with_reducible first | exact HB.out | apply below_alloc | apply pw_below_drewN | apply below_drew1 | refine below_set ?_ GE312.out) | exact HB.out)⟩
        · rw [if_neg c8] at H
          have c8b0 : decide (1024 < (l0_1.length : Int)) = false := decide_eq_false c8
          have c8b1 : decide (1024 < l0_1.length) = false := decide_eq_false (by omega)
          clear c8
          replace H := Option.bind_eq_some_iff.mp H
          obtain ⟨t313, A100, H⟩ := H
          replace H : ((proto_little.f kj1 t313 (IntKind.u64.wrap (a0_3)) 8).bind fun t316 => ((proto_little.f kj1 t316 (IntKind.u64.wrap ((l0_1.length : Int))) 4).bind fun t319 => (proto_EncodeReply.l0 kj1 t319 l0_1 (l0_1.length : Int) 0 a0_0 l0_1 a0_2 a0_3))) = some (r1, r2) := H
          have A10 := Aside0.mk A100
          clear A100
          replace H := Option.bind_eq_some_iff.mp H
          obtain ⟨t316, A110, H⟩ := H
          replace H : ((proto_little.f kj1 t316 (IntKind.u64.wrap ((l0_1.length : Int))) 4).bind fun t319 => (proto_EncodeReply.l0 kj1 t319 l0_1 (l0_1.length : Int) 0 a0_0 l0_1 a0_2 a0_3)) = some (r1, r2) := H
          have A11 := Aside0.mk A110
          clear A110
          replace H := Option.bind_eq_some_iff.mp H
          obtain ⟨t319, A120, H⟩ := H
          replace H : (proto_EncodeReply.l0 kj1 t319 l0_1 (l0_1.length : Int) 0 a0_0 l0_1 a0_2 a0_3) = some (r1, r2) := H
          have A12 := Aside0.mk A120
          clear A120
          have H' := Aside0.mk H
          clear H
          have hcz13_0 : wc.cell? ⟨gb312, 0, none⟩ = some (.int .i64 a0_0) := (blk_cell BK312.out 0).trans rfl
          have hcz13_1 : wc.cell? ⟨gb312, 1, none⟩ = some (.slice A0_1 l0_1.length c0_1) := (blk_cell BK312.out 1).trans rfl
          have hcz13_2 : wc.cell? ⟨gb312, 2, none⟩ = some (.string a0_2) := (blk_cell BK312.out 2).trans rfl
          have hcz13_3 : wc.cell? ⟨gb312, 3, none⟩ = some (.int .i64 a0_3) := (blk_cell BK312.out 3).trans rfl
          have hfz13_0 := blk_frozen BK312.out 0
          have hfz13_1 := blk_frozen BK312.out 1
          have hfz13_2 := blk_frozen BK312.out 2
          have hfz13_3 := blk_frozen BK312.out 3
          try go_wp2
          have n0_ := Aside0.mk (blk_drew BK312.out)
          have n1_ := Aside0.mk (below_drew1 HB.out)
          clear BK312
          clear HB
          have BK312 := n0_
          have HB := n1_
          clear n0_ n1_
          refine start_ (n := 9) (S := fun w' => w'.cell? ⟨gb312, 0, none⟩ = some (.int .i64 a0_0) ∧ w'.cell? ⟨gb312, 1, none⟩ = some (.slice A0_1 l0_1.length c0_1) ∧ w'.cell? ⟨gb312, 2, none⟩ = some (.string a0_2) ∧ w'.cell? ⟨gb312, 3, none⟩ = some (.int .i64 a0_3)) (ds := []) #[false, false, false, false, false, false, false, false, false] (by kernel_rfl) rfl rfl ⟨(blk_cell BK312.out 0).trans rfl, (blk_cell BK312.out 1).trans rfl, (blk_cell BK312.out 2).trans rfl, (blk_cell BK312.out 3).trans rfl⟩ (fun hHeld => ?_); refine with_tabW proto_EncodeReply.tab5 proto_EncodeReply.bits5 (fun HT_ HW_ => ?_)
          generalize wc.drew = w14 at BK312 HB hHeld ⊢
          refine pure_ (i := 0) (N := some 21) (v := ?_) (a' := ?_) #[true, false, false, false, false, false, false, false, false] rfl rfl (any_of HT_.out (by kernel_rfl)) (fun _ _ _ h => h) (Or.inl ⟨by rfl, ?_⟩) ?_ ?_
          rotate_left
          · intro w'
            go_simp
            with_reducible rfl
          rotate_left
          · simp only [Act.put, List.setIfInBounds_toArray, List.set_cons_zero, List.set_cons_succ, i64_w, i32_w]
            rfl
          refine pure_ (i := 4) (N := some 25) (v := ?_) (a' := ?_) #[true, false, false, false, true, false, false, false, false] rfl rfl (any_of HT_.out (by kernel_rfl)) (fun _ _ _ h => h) (Or.inl ⟨by rfl, ?_⟩) ?_ ?_
          rotate_left
          · intro w'
            go_simp
            with_reducible rfl
          rotate_left
          · simp only [Act.put, List.setIfInBounds_toArray, List.set_cons_zero, List.set_cons_succ, i64_w, i32_w]
            rfl
          refine take_ (i := 1) (N := some 22) (v := ?_) (a' := ?_) #[true, true, false, false, true, false, false, false, false] rfl rfl (take_ofW HT_.out HW_.out (by kernel_rfl)) (fun _ _ _ h => h) (Or.inl ⟨by rfl, ?_⟩) hHeld ?_ ?_
          rotate_left
          · rintro w' ⟨s0, s1, s2, s3⟩
            go_simp
            with_reducible rfl
          rotate_left
          · simp only [Act.put, List.setIfInBounds_toArray, List.set_cons_zero, List.set_cons_succ, i64_w, i32_w]
            rfl
          refine pure_ (i := 2) (N := some 23) (v := ?_) (a' := ?_) #[true, true, true, false, true, false, false, false, false] rfl rfl (any_of HT_.out (by kernel_rfl)) (fun _ _ _ h => h) (Or.inl ⟨by rfl, ?_⟩) ?_ ?_
          rotate_left
          · intro w'
            go_simp
            with_reducible rfl
          rotate_left
          · simp only [Act.put, List.setIfInBounds_toArray, List.set_cons_zero, List.set_cons_succ, i64_w, i32_w]
            rfl
          refine take_ (i := 5) (N := some 26) (v := ?_) (a' := ?_) #[true, true, true, false, true, true, false, false, false] rfl rfl (take_ofW HT_.out HW_.out (by kernel_rfl)) (fun _ _ _ h => h) (Or.inl ⟨by rfl, ?_⟩) hHeld ?_ ?_
          rotate_left
          · rintro w' ⟨s0, s1, s2, s3⟩
            go_simp
            with_reducible rfl
          rotate_left
          · simp only [Act.put, List.setIfInBounds_toArray, List.set_cons_zero, List.set_cons_succ, i64_w, i32_w]
            rfl
          refine pure_ (i := 6) (N := some 27) (v := ?_) (a' := ?_) #[true, true, true, false, true, true, true, false, false] rfl rfl (any_of HT_.out (by kernel_rfl)) (fun _ _ _ h => h) (Or.inl ⟨by rfl, ?_⟩) ?_ ?_
          rotate_left
          · intro w'
            go_simp
            with_reducible rfl
          rotate_left
          · simp only [Act.put, List.setIfInBounds_toArray, List.set_cons_zero, List.set_cons_succ, i64_w, i32_w]
            rfl
          refine one_ (i := 3) (N := some 24) #[true, true, true, true, true, true, true, false, false] rfl rfl (one_of HT_.out (by kernel_rfl)) (by decide) (fun K hK => ?_)
          refine goes_ Try.func24 (by kernel_rfl) rfl #[.slice none 0 0, .int .u64 (IntKind.u64.wrap (a0_0)), .int .i64 8] (by rfl) rfl rfl (by (try simp only [List.map_toArray, List.map_cons, List.map_nil]); first | done | rfl | (simp only [List.length_drop, List.length_take]; rfl)) ?_
          refine (proto_little.calls kj1 (fun k_ => some k_ = (.slice none 0 0 : Value).ownBlock) (.slice none 0 0) ([] : List Int) (IntKind.u64.wrap (a0_0)) 8 t313 w _ ?side1 ?side2 A10.out).mono ?_
          (case side1 => repeat (first | (with_reducible first | exact HB.out | apply below_alloc | apply pw_below_drewN | apply below_drew1 | refine below_set ?_ GE312.out) | exact HB.out))
          (case side2 => exact Kd.R_nil _ _ _ _ _)
          rintro e w15 ⟨v314, rfl, ho0, hb, hkp⟩
          refine ⟨_, rfl, ?_⟩
          have n0_ := Aside0.mk (blk_kept (by (with_reducible repeat (first | refine blk_drewN ?_ _ | refine blk_drew ?_ | refine blk_alloc ?_ _)); exact BK312.out) hkp (fun hs_ => (fun e_ => by simp [Value.ownBlock] at e_) hs_))
          have n1_ := Aside0.mk (Kd.R_mono (ok' := fun k_ => True) ho0 (fun k_ hk_ => trivial))
          have n2_ := Aside0.mk (hb)
          clear BK312
          clear HB
          have BK312 := n0_
          have HO315 := n1_
          have HB := n2_
          clear n0_ n1_ n2_
          (try clear hb)
          (try clear hkp)
          (try clear ho0)
          obtain ⟨Ao16, co16, eo16⟩ := Kd.R_slice HO315.out
          (first | subst eo16 | (injection eo16 with f1_ f2_ f3_; have f4_ := f1_.symm; have f5_ := f3_.symm; clear f1_ f2_ f3_; subst f4_; subst f5_))
          refine hK.out _ _ ⟨(blk_cell BK312.out 0).trans rfl, (blk_cell BK312.out 1).trans rfl, (blk_cell BK312.out 2).trans rfl, (blk_cell BK312.out 3).trans rfl⟩ (fun hHeld => ?_)
          clear hK K
          refine norm_ (a' := ?_) ?_ ?_
          rotate_left
          · show Act.put _ (some 24) _ = _
            simp only [Act.put, List.setIfInBounds_toArray, List.set_cons_zero, List.set_cons_succ, i64_w, i32_w]
            rfl
          refine one_ (i := 7) (N := some 28) #[true, true, true, true, true, true, true, true, false] rfl rfl (one_of HT_.out (by kernel_rfl)) (by decide) (fun K hK => ?_)
          refine goes_ Try.func24 (by kernel_rfl) rfl #[.slice Ao16 t313.length co16, .int .u64 (IntKind.u64.wrap (a0_3)), .int .i64 8] (by rfl) rfl rfl (by (try simp only [List.map_toArray, List.map_cons, List.map_nil]); first | done | rfl | (simp only [List.length_drop, List.length_take]; rfl)) ?_
          with_reducible refine (proto_little.calls kj1 (fun k_ => some k_ = (.slice Ao16 t313.length co16 : Value).ownBlock) (.slice Ao16 t313.length co16) t313 (IntKind.u64.wrap (a0_3)) 8 t316 w _ ?side1 ?side2 A11.out).mono ?_
          (case side1 => repeat (first | (with_reducible first | exact HB.out | apply below_alloc | apply pw_below_drewN | apply below_drew1 | refine below_set ?_ GE312.out) | exact HB.out))
          (case side2 => exact Kd.R_tight rfl HO315.out)
          rintro e w17 ⟨v317, rfl, ho0, hb, hkp⟩
          refine ⟨_, rfl, ?_⟩
          have n0_ := Aside0.mk (blk_kept (by (with_reducible repeat (first | refine blk_drewN ?_ _ | refine blk_drew ?_ | refine blk_alloc ?_ _)); exact BK312.out) hkp (fun hs_ => (fun e_ => (Kd.R_ne HO315.out BK312.out (by decide)) e_) hs_))
          have n1_ := Aside0.mk (Kd.R_mono (ok' := fun k_ => True) ho0 (fun k_ hk_ => trivial))
          have n2_ := Aside0.mk (hb)
          clear BK312
          clear HB
          clear HO315
          have BK312 := n0_
          have HO318 := n1_
          have HB := n2_
          clear n0_ n1_ n2_
          (try clear hb)
          (try clear hkp)
          (try clear ho0)
          refine hK.out _ _ ⟨(blk_cell BK312.out 0).trans rfl, (blk_cell BK312.out 1).trans rfl, (blk_cell BK312.out 2).trans rfl, (blk_cell BK312.out 3).trans rfl⟩ (fun hHeld => ?_)
          clear hK K
          refine norm_ (a' := ?_) ?_ ?_
          rotate_left
          · show Act.put _ (some 28) _ = _
            simp only [Act.put, List.setIfInBounds_toArray, List.set_cons_zero, List.set_cons_succ, i64_w, i32_w]
            rfl
          refine pure_ (i := 8) (N := some 4) (v := ?_) (a' := ?_) #[true, true, true, true, true, true, true, true, true] rfl rfl (any_of HT_.out (by kernel_rfl)) (fun _ _ _ h => h) (Or.inl ⟨by rfl, ?_⟩) ?_ ?_
          rotate_left
          · intro w'
            go_simp
            with_reducible rfl
          rotate_left
          · simp only [Act.put, List.setIfInBounds_toArray, List.set_cons_zero, List.set_cons_succ, i64_w, i32_w]
            rfl
          refine done_ (done_of HT_.out (by kernel_rfl)) ?_
          have hcz18_0 : w17.cell? ⟨gb312, 0, none⟩ = some (.int .i64 a0_0) := (blk_cell BK312.out 0).trans rfl
          have hcz18_1 : w17.cell? ⟨gb312, 1, none⟩ = some (.slice A0_1 l0_1.length c0_1) := (blk_cell BK312.out 1).trans rfl
          have hcz18_2 : w17.cell? ⟨gb312, 2, none⟩ = some (.string a0_2) := (blk_cell BK312.out 2).trans rfl
          have hcz18_3 : w17.cell? ⟨gb312, 3, none⟩ = some (.int .i64 a0_3) := (blk_cell BK312.out 3).trans rfl
          have hfz18_0 := blk_frozen BK312.out 0
          have hfz18_1 := blk_frozen BK312.out 1
          have hfz18_2 := blk_frozen BK312.out 2
          have hfz18_3 := blk_frozen BK312.out 3
          obtain ⟨Ao19, co19, eo19⟩ := Kd.R_slice HO318.out
          subst eo19
          try go_wp2_with (first | ((with_reducible refine gate_callee (f := 24) rfl ?_); refine goesL_ (some 34) rfl rfl Try.func24 (by kernel_rfl) rfl #[.slice Ao19 t316.length co19, .int .u64 (IntKind.u64.wrap ((l0_1.length : Int))), .int .i64 4] rfl (by (try simp only [List.map_toArray, List.map_cons, List.map_nil]); first | done | rfl | (simp only [List.length_drop, List.length_take]; rfl)) ?_; (with_reducible refine (proto_little.calls kj1 (fun k_ => some k_ = (.slice Ao19 t316.length co19 : Value).ownBlock) (.slice Ao19 t316.length co19) t316 (IntKind.u64.wrap ((l0_1.length : Int))) 4 t319 w _ ?side1 ?side2 A12.out).mono ?_); (case side1 => repeat (first | (with_reducible first | exact HB.out | apply below_alloc | apply pw_below_drewN | apply below_drew1 | refine below_set ?_ GE312.out) | exact HB.out)); (case side2 => exact Kd.R_tight rfl HO318.out); rintro e w20 ⟨v320, rfl, ho0, hb, hkp⟩; refine ⟨_, rfl, ?_⟩; have n0_ := Aside0.mk (blk_kept (by (with_reducible repeat (first | refine blk_drewN ?_ _ | refine blk_drew ?_ | refine blk_alloc ?_ _)); exact BK312.out) hkp (fun hs_ => (fun e_ => (Kd.R_ne HO318.out BK312.out (by decide)) e_) hs_)); have n1_ := Aside0.mk (Kd.R_mono (ok' := fun k_ => True) ho0 (fun k_ hk_ => trivial)); have n2_ := Aside0.mk (hb); clear BK312; clear HB; clear HO318; have BK312 := n0_; have HO321 := n1_; have HB := n2_; clear n0_ n1_ n2_; (try clear hb); (try clear hkp); (try clear ho0); have hcz21_0 : w20.cell? ⟨gb312, 0, none⟩ = some (.int .i64 a0_0) := (blk_cell BK312.out 0).trans rfl; have hcz21_1 : w20.cell? ⟨gb312, 1, none⟩ = some (.slice A0_1 l0_1.length c0_1) := (blk_cell BK312.out 1).trans rfl; have hcz21_2 : w20.cell? ⟨gb312, 2, none⟩ = some (.string a0_2) := (blk_cell BK312.out 2).trans rfl; have hcz21_3 : w20.cell? ⟨gb312, 3, none⟩ = some (.int .i64 a0_3) := (blk_cell BK312.out 3).trans rfl; have hfz21_0 := blk_frozen BK312.out 0; have hfz21_1 := blk_frozen BK312.out 1; have hfz21_2 := blk_frozen BK312.out 2; have hfz21_3 := blk_frozen BK312.out 3))
          go_loopg [4, 38] kj1 (fun kq v4 v38 w' => ∃ (x4_2 : List Int) (x38_2 : Int), v38 = .int .i64 x38_2 ∧ Aside0 (proto_EncodeReply.l0 kq x4_2 l0_1 (l0_1.length : Int) x38_2 a0_0 l0_1 a0_2 a0_3 = some (r1, r2)) ∧ Aside0 (kq ≤ kj1) ∧ Aside0 (Kd.R (Kd.int .u8) 5 w' w.heap.size (fun _ => True) v4 x4_2) ∧ Aside0 (w'.heap[gb312]? = some (.cells #[.int .i64 a0_0, (.slice A0_1 l0_1.length c0_1), .string a0_2, .int .i64 a0_3] 48 (0, 0))) ∧ Aside0 (Below w.heap.size w w'))
          case atStart => exact ⟨(t319), (0), (by first | rfl | (simp; done) | (simp [*]; done)), H', ⟨Nat.le_refl _⟩, ⟨by (with_reducible repeat (first | apply Kd.R_alloc | apply Kd.R_drewN | apply Kd.R_drew)); exact HO321.out⟩, ⟨by (with_reducible repeat (first | refine blk_drewN ?_ _ | refine blk_drew ?_ | refine blk_alloc ?_ _)); exact BK312.out⟩, ⟨by repeat (first | (with_reducible first | exact HB.out | apply below_alloc | apply pw_below_drewN | apply below_drew1 | refine below_set ?_ GE312.out) | exact HB.out)⟩⟩
          case round =>
            clear H'
            try clear c2
            try clear p2
            try clear c4
            try clear c4b0
            try clear c7
            try clear c8
            try clear c8b0
            try clear c8b1
            try clear hcz13_0
            try clear hcz13_1
            try clear hcz13_2
            try clear hcz13_3
            try clear hcz18_0
            try clear hcz18_1
            try clear hcz18_2
            try clear hcz18_3
            try clear hcz21_0
            try clear hcz21_1
            try clear hcz21_2
            try clear hcz21_3
            try clear hcz5_0
            try clear hcz5_1
            try clear hcz5_2
            try clear hcz5_3
            try clear hcz6_0
            try clear hcz6_1
            try clear hcz6_2
            try clear hcz6_3
            try clear hcz9_0
            try clear hcz9_1
            try clear hcz9_2
            try clear hcz9_3
            try clear hfz13_0
            try clear hfz13_1
            try clear hfz13_2
            try clear hfz13_3
            try clear hfz18_0
            try clear hfz18_1
            try clear hfz18_2
            try clear hfz18_3
            try clear hfz21_0
            try clear hfz21_1
            try clear hfz21_2
            try clear hfz21_3
            try clear hfz5_0
            try clear hfz5_1
            try clear hfz5_2
            try clear hfz5_3
            try clear hfz6_0
            try clear hfz6_1
            try clear hfz6_2
            try clear hfz6_3
            try clear hfz9_0
            try clear hfz9_1
            try clear hfz9_2
            try clear hfz9_3
            try clear p2
            obtain ⟨x4_2, x38_2, rfl, HA, HK2, HO_4, BK312, HB⟩ := hrel
            cases gk with
            | zero => exact absurd HA.out (by simp [proto_EncodeReply.l0])
            | succ k2 =>
              have H := HA.out
              clear HA
              simp only [proto_EncodeReply.l0] at H
              by_cases c22 : x38_2 < (l0_1.length : Int)
              · rw [if_pos c22] at H
                have c22b0 : decide (x38_2 < (l0_1.length : Int)) = true := decide_eq_true c22
                clear c22
                by_cases c23 : 0 ≤ x38_2
                · rw [if_pos c23] at H
                  have c23b0 : decide (0 ≤ x38_2) = true := decide_eq_true c23
                  clear c23
                  by_cases c24 : x38_2 < (l0_1.length : Int)
                  · rw [if_pos c24] at H
                    have c24b0 : decide (x38_2 < (l0_1.length : Int)) = true := decide_eq_true c24
                    clear c24
                    by_cases c25 : ((rdOf ByteArray.empty l0_1 x38_2).size : Int) > (wrap64 (4194304 - (x4_2.length : Int)))
                    · rw [if_pos c25] at H
                      have c25b0 : decide ((wrap64 (4194304 - (x4_2.length : Int))) < ((rdOf ByteArray.empty l0_1 x38_2).size : Int)) = true := decide_eq_true c25
                      clear c25
                      simp only [Option.some.injEq, Prod.mk.injEq] at H
                      obtain ⟨rfl, rfl⟩ := H
                      have p322 : 0 ≤ (x38_2 : Int) := of_decide_eq_true (by first | (with_reducible assumption) | assumption)
                      have q322 : x38_2 < (l0_1.length : Int) := of_decide_eq_true (by first | (with_reducible assumption) | assumption)
                      obtain ⟨ad322, e322, hx322_0⟩ := Kd.at_string HR0_1.out x38_2 p322 q322
                      cases e322
                      replace hx322_0 := (HB.out.cell (World.block_lt_of_cell? w _ hx322_0)).trans hx322_0
                      replace p322 := eq_true p322
                      replace q322 := eq_true q322
                      obtain ⟨Ao26, co26, eo26⟩ := Kd.R_slice HO_4.out
                      subst eo26
                      go_wp2
                      go_ret2
                      exact ⟨_, by first | rfl | (simp [errW_none, errW_some] <;> rfl) | (simp [*, errW_none, errW_some] <;> rfl), by first | exact Kd.R_nil _ _ _ _ _ | exact Kd.N_nil _ _ _ _ _ | exact Kd.V_nil _ _ _ _ _ | exact Kd.Q_nil _ _ _ _ _ | exact Kd.S_nil _ _ _ _ _, by repeat (first | (with_reducible first | exact HB.out | apply below_alloc | apply pw_below_drewN | apply below_drew1 | refine below_set ?_ GE312.out) | exact HB.out)⟩
                    · rw [if_neg c25] at H
                      have c25b0 : decide ((wrap64 (4194304 - (x4_2.length : Int))) < ((rdOf ByteArray.empty l0_1 x38_2).size : Int)) = false := decide_eq_false c25
                      clear c25
                      replace H := Option.bind_eq_some_iff.mp H
                      obtain ⟨t323, A270, H⟩ := H
                      replace H : (proto_EncodeReply.l0 k2 t323 l0_1 (l0_1.length : Int) (wrap64 (x38_2 + 1)) a0_0 l0_1 a0_2 a0_3) = some (r1, r2) := H
                      have A27 := Aside0.mk A270
                      clear A270
                      have H' := Aside0.mk H
                      clear H
                      have p322 : 0 ≤ (x38_2 : Int) := of_decide_eq_true (by first | (with_reducible assumption) | assumption)
                      have q322 : x38_2 < (l0_1.length : Int) := of_decide_eq_true (by first | (with_reducible assumption) | assumption)
                      obtain ⟨ad322, e322, hx322_0⟩ := Kd.at_string HR0_1.out x38_2 p322 q322
                      cases e322
                      replace hx322_0 := (HB.out.cell (World.block_lt_of_cell? w _ hx322_0)).trans hx322_0
                      replace p322 := eq_true p322
                      replace q322 := eq_true q322
                      obtain ⟨Ao28, co28, eo28⟩ := Kd.R_slice HO_4.out
                      subst eo28
                      go_wp2_with (first | ((with_reducible refine gate_callee (f := 25) rfl ?_); refine goesL_ (some 50) rfl rfl Try.func25 (by kernel_rfl) rfl #[.slice Ao28 x4_2.length co28, .string (rdOf ByteArray.empty l0_1 x38_2)] rfl (by (try simp only [List.map_toArray, List.map_cons, List.map_nil]); first | done | rfl | (simp only [List.length_drop, List.length_take]; rfl)) ?_; (with_reducible refine (proto_text.calls k2 (fun k_ => some k_ = (.slice Ao28 x4_2.length co28 : Value).ownBlock) (.slice Ao28 x4_2.length co28) x4_2 (rdOf ByteArray.empty l0_1 x38_2) t323 w _ ?side1 ?side2 A27.out).mono ?_); (case side1 => repeat (first | (with_reducible first | exact HB.out | apply below_alloc | apply pw_below_drewN | apply below_drew1 | refine below_set ?_ GE312.out) | exact HB.out)); (case side2 => exact Kd.R_tight rfl HO_4.out); rintro e w29 ⟨v324, rfl, ho0, hb, hkp⟩; refine ⟨_, rfl, ?_⟩; have n0_ := Aside0.mk (blk_kept (by (with_reducible repeat (first | refine blk_drewN ?_ _ | refine blk_drew ?_ | refine blk_alloc ?_ _)); exact BK312.out) hkp (fun hs_ => (fun e_ => (Kd.R_ne HO_4.out BK312.out (by decide)) e_) hs_)); have n1_ := Aside0.mk (Kd.R_mono (ok' := fun k_ => True) ho0 (fun k_ hk_ => trivial)); have n2_ := Aside0.mk (hb); clear BK312; clear HB; clear HO_4; have BK312 := n0_; have HO325 := n1_; have HB := n2_; clear n0_ n1_ n2_; (try clear hb); (try clear hkp); (try clear ho0)))
                      go_roundg k2
                      case measure => have := HJ1.out; have := HK2.out; omega
                      case rel => exact ⟨(t323), (wrap64 (x38_2 + 1)), (by first | rfl | (simp; done) | (simp [*]; done)), H', ⟨by have := HJ1.out; have := HK2.out; omega⟩, ⟨by (with_reducible repeat (first | apply Kd.R_alloc | apply Kd.R_drewN | apply Kd.R_drew)); exact HO325.out⟩, ⟨by (with_reducible repeat (first | refine blk_drewN ?_ _ | refine blk_drew ?_ | refine blk_alloc ?_ _)); exact BK312.out⟩, ⟨by repeat (first | (with_reducible first | exact HB.out | apply below_alloc | apply pw_below_drewN | apply below_drew1 | refine below_set ?_ GE312.out) | exact HB.out)⟩⟩
                  · rw [if_neg c24] at H
                    exact absurd H (by simp)
                · rw [if_neg c23] at H
                  exact absurd H (by simp)
              · rw [if_neg c22] at H
                have c22b0 : decide (x38_2 < (l0_1.length : Int)) = false := decide_eq_false c22
                clear c22
                have HC30 := Aside0.mk H
                clear H
                go_upto_region 14 with (fail)
                go_cut [63] (fun v63 wc => ∃ (kq : Nat) (x63_29 : Bool), v63 = .bool x63_29 ∧ Aside0 (proto_EncodeReply.j2 kq x4_2 x63_29 a0_0 l0_1 a0_2 a0_3 = some (r1, r2)) ∧ Aside0 (kq ≤ k2) ∧ Aside0 (Kd.R (Kd.int .u8) 5 wc w.heap.size (fun _ => True) u4 x4_2) ∧ Aside0 (wc.heap[gb312]? = some (.cells #[.int .i64 a0_0, (.slice A0_1 l0_1.length c0_1), .string a0_2, .int .i64 a0_3] 48 (0, 0))) ∧ Aside0 (Below w.heap.size w wc))
                case first =>
                  have H := HC30.out
                  clear HC30
                  by_cases c31 : (x4_2.length : Int) > 4194304
                  · rw [if_pos c31] at H
                    have c31b0 : decide (4194304 < (x4_2.length : Int)) = true := decide_eq_true c31
                    have c31b1 : decide (4194304 < x4_2.length) = true := decide_eq_true (by omega)
                    clear c31
                    (first | rw [c31b0] | (simp only [i64_w, i32_w]; rw [c31b0]) | skip)
                    have H' := Aside0.mk H
                    clear H
                    obtain ⟨Ao32, co32, eo32⟩ := Kd.R_slice HO_4.out
                    subst eo32
                    go_wp2
                    go_meet
                    case rel => exact ⟨_, (true), (by first | rfl | (simp; done) | (simp [*]; done)), H', ⟨by have := HJ1.out; have := HK2.out; first | omega | exact Nat.le_refl _⟩, ⟨by (with_reducible repeat (first | apply Kd.R_alloc | apply Kd.R_drewN | apply Kd.R_drew)); exact HO_4.out⟩, ⟨by (with_reducible repeat (first | refine blk_drewN ?_ _ | refine blk_drew ?_ | refine blk_alloc ?_ _)); exact BK312.out⟩, ⟨by repeat (first | (with_reducible first | exact HB.out | apply below_alloc | apply pw_below_drewN | apply below_drew1 | refine below_set ?_ GE312.out) | exact HB.out)⟩⟩
                  · rw [if_neg c31] at H
                    have c31b0 : decide (4194304 < (x4_2.length : Int)) = false := decide_eq_false c31
                    have c31b1 : decide (4194304 < x4_2.length) = false := decide_eq_false (by omega)
                    clear c31
                    (first | rw [c31b0] | (simp only [i64_w, i32_w]; rw [c31b0]) | skip)
                    have H' := Aside0.mk H
                    clear H
                    obtain ⟨Ao33, co33, eo33⟩ := Kd.R_slice HO_4.out
                    subst eo33
                    have hcz34_0 : wr.cell? ⟨gb312, 0, none⟩ = some (.int .i64 a0_0) := (blk_cell BK312.out 0).trans rfl
                    have hcz34_1 : wr.cell? ⟨gb312, 1, none⟩ = some (.slice A0_1 l0_1.length c0_1) := (blk_cell BK312.out 1).trans rfl
                    have hcz34_2 : wr.cell? ⟨gb312, 2, none⟩ = some (.string a0_2) := (blk_cell BK312.out 2).trans rfl
                    have hcz34_3 : wr.cell? ⟨gb312, 3, none⟩ = some (.int .i64 a0_3) := (blk_cell BK312.out 3).trans rfl
                    have hfz34_0 := blk_frozen BK312.out 0
                    have hfz34_1 := blk_frozen BK312.out 1
                    have hfz34_2 := blk_frozen BK312.out 2
                    have hfz34_3 := blk_frozen BK312.out 3
                    go_wp2
                    go_meet
                    case rel => exact ⟨_, (decide ((a0_2.size : Int) > (wrap64 (4194304 - (x4_2.length : Int))))), (by first | rfl | (simp; done) | (simp [*]; done)), H', ⟨by have := HJ1.out; have := HK2.out; first | omega | exact Nat.le_refl _⟩, ⟨by (with_reducible repeat (first | apply Kd.R_alloc | apply Kd.R_drewN | apply Kd.R_drew)); exact HO_4.out⟩, ⟨by (with_reducible repeat (first | refine blk_drewN ?_ _ | refine blk_drew ?_ | refine blk_alloc ?_ _)); exact BK312.out⟩, ⟨by repeat (first | (with_reducible first | exact HB.out | apply below_alloc | apply pw_below_drewN | apply below_drew1 | refine below_set ?_ GE312.out) | exact HB.out)⟩⟩
                case rest =>
                  clear HC30
                  try clear c2
                  try clear p2
                  try clear c3
                  try clear p3
                  try clear q3
                  try clear hx3
                  try clear c4
                  try clear c4b0
                  try clear p6
                  try clear c7
                  try clear c8
                  try clear c8b0
                  try clear c8b1
                  try clear c22
                  try clear c22b0
                  try clear c23
                  try clear c23b0
                  try clear c24
                  try clear c24b0
                  try clear c25
                  try clear c25b0
                  try clear c31
                  try clear c31b0
                  try clear c31b1
                  try clear p32
                  try clear q32
                  try clear hx32
                  try clear hcz13_0
                  try clear hcz13_1
                  try clear hcz13_2
                  try clear hcz13_3
                  try clear hcz18_0
                  try clear hcz18_1
                  try clear hcz18_2
                  try clear hcz18_3
                  try clear hcz21_0
                  try clear hcz21_1
                  try clear hcz21_2
                  try clear hcz21_3
                  try clear hcz34_0
                  try clear hcz34_1
                  try clear hcz34_2
                  try clear hcz34_3
                  try clear hcz5_0
                  try clear hcz5_1
                  try clear hcz5_2
                  try clear hcz5_3
                  try clear hcz6_0
                  try clear hcz6_1
                  try clear hcz6_2
                  try clear hcz6_3
                  try clear hcz9_0
                  try clear hcz9_1
                  try clear hcz9_2
                  try clear hcz9_3
                  try clear hfz13_0
                  try clear hfz13_1
                  try clear hfz13_2
                  try clear hfz13_3
                  try clear hfz18_0
                  try clear hfz18_1
                  try clear hfz18_2
                  try clear hfz18_3
                  try clear hfz21_0
                  try clear hfz21_1
                  try clear hfz21_2
                  try clear hfz21_3
                  try clear hfz34_0
                  try clear hfz34_1
                  try clear hfz34_2
                  try clear hfz34_3
                  try clear hfz5_0
                  try clear hfz5_1
                  try clear hfz5_2
                  try clear hfz5_3
                  try clear hfz6_0
                  try clear hfz6_1
                  try clear hfz6_2
                  try clear hfz6_3
                  try clear hfz9_0
                  try clear hfz9_1
                  try clear hfz9_2
                  try clear hfz9_3
                  try clear hx322_0
                  try clear p2
                  try clear p322
                  try clear q322
                  obtain ⟨kq, x63_29, rfl, HA, HJ29, HO_4, BK312, HB⟩ := hcut
                  cases kq with
                  | zero => exact absurd HA.out (by simp [proto_EncodeReply.j2])
                  | succ kj29 =>
                    have H := HA.out
                    clear HA
                    simp only [proto_EncodeReply.j2] at H
                    by_cases c35 : x63_29 = true
                    · subst c35
                      have H1 : (some (([] : List Int), 5)) = some (r1, r2) := by rw [if_pos rfl] at H; exact H
                      clear H
                      have H := H1
                      clear H1
                      simp only [Option.some.injEq, Prod.mk.injEq] at H
                      obtain ⟨rfl, rfl⟩ := H
                      go_wp2
                      go_ret2
                      exact ⟨_, by first | rfl | (simp [errW_none, errW_some] <;> rfl) | (simp [*, errW_none, errW_some] <;> rfl), by first | exact Kd.R_nil _ _ _ _ _ | exact Kd.N_nil _ _ _ _ _ | exact Kd.V_nil _ _ _ _ _ | exact Kd.Q_nil _ _ _ _ _ | exact Kd.S_nil _ _ _ _ _, by repeat (first | (with_reducible first | exact HB.out | apply below_alloc | apply pw_below_drewN | apply below_drew1 | refine below_set ?_ GE312.out) | exact HB.out)⟩
                    · replace c35 := Bool.eq_false_iff.mpr c35
                      subst c35
                      have H1 : ((proto_text.f kj29 x4_2 a0_2).bind fun t326 => (if (t326.length : Int) > 4194304 then (some (([] : List Int), 5)) else ((proto_frame.f kj29 200 t326).bind fun t329 => (some (t329, 0))))) = some (r1, r2) := by rw [if_neg (show ¬ (false = true) by decide)] at H; exact H
                      clear H
                      have H := H1
                      clear H1
                      replace H := Option.bind_eq_some_iff.mp H
                      obtain ⟨t326, A360, H⟩ := H
                      replace H : (if (t326.length : Int) > 4194304 then (some (([] : List Int), 5)) else ((proto_frame.f kj29 200 t326).bind fun t329 => (some (t329, 0)))) = some (r1, r2) := H
                      have A36 := Aside0.mk A360
                      clear A360
                      by_cases c37 : (t326.length : Int) > 4194304
                      · rw [if_pos c37] at H
                        have c37b0 : decide (4194304 < (t326.length : Int)) = true := decide_eq_true c37
                        have c37b1 : decide (4194304 < t326.length) = true := decide_eq_true (by omega)
                        clear c37
                        simp only [Option.some.injEq, Prod.mk.injEq] at H
                        obtain ⟨rfl, rfl⟩ := H
                        have hcz38_0 : wc.cell? ⟨gb312, 0, none⟩ = some (.int .i64 a0_0) := (blk_cell BK312.out 0).trans rfl
                        have hcz38_1 : wc.cell? ⟨gb312, 1, none⟩ = some (.slice A0_1 l0_1.length c0_1) := (blk_cell BK312.out 1).trans rfl
                        have hcz38_2 : wc.cell? ⟨gb312, 2, none⟩ = some (.string a0_2) := (blk_cell BK312.out 2).trans rfl
                        have hcz38_3 : wc.cell? ⟨gb312, 3, none⟩ = some (.int .i64 a0_3) := (blk_cell BK312.out 3).trans rfl
                        have hfz38_0 := blk_frozen BK312.out 0
                        have hfz38_1 := blk_frozen BK312.out 1
                        have hfz38_2 := blk_frozen BK312.out 2
                        have hfz38_3 := blk_frozen BK312.out 3
                        obtain ⟨Ao39, co39, eo39⟩ := Kd.R_slice HO_4.out
                        subst eo39
                        go_wp2_with (first | ((with_reducible refine gate_callee (f := 25) rfl ?_); refine goesL_ (some 67) rfl rfl Try.func25 (by kernel_rfl) rfl #[.slice Ao39 x4_2.length co39, .string a0_2] rfl (by (try simp only [List.map_toArray, List.map_cons, List.map_nil]); first | done | rfl | (simp only [List.length_drop, List.length_take]; rfl)) ?_; (with_reducible refine (proto_text.calls kj29 (fun k_ => some k_ = (.slice Ao39 x4_2.length co39 : Value).ownBlock) (.slice Ao39 x4_2.length co39) x4_2 a0_2 t326 w _ ?side1 ?side2 A36.out).mono ?_); (case side1 => repeat (first | (with_reducible first | exact HB.out | apply below_alloc | apply pw_below_drewN | apply below_drew1 | refine below_set ?_ GE312.out) | exact HB.out)); (case side2 => exact Kd.R_tight rfl HO_4.out); rintro e w40 ⟨v327, rfl, ho0, hb, hkp⟩; refine ⟨_, rfl, ?_⟩; have n0_ := Aside0.mk (blk_kept (by (with_reducible repeat (first | refine blk_drewN ?_ _ | refine blk_drew ?_ | refine blk_alloc ?_ _)); exact BK312.out) hkp (fun hs_ => (fun e_ => (Kd.R_ne HO_4.out BK312.out (by decide)) e_) hs_)); have n1_ := Aside0.mk (Kd.R_mono (ok' := fun k_ => True) ho0 (fun k_ hk_ => trivial)); have n2_ := Aside0.mk (hb); clear BK312; clear HB; clear HO_4; have BK312 := n0_; have HO328 := n1_; have HB := n2_; clear n0_ n1_ n2_; (try clear hb); (try clear hkp); (try clear ho0); obtain ⟨Ao41, co41, eo41⟩ := Kd.R_slice HO328.out; subst eo41))
                        go_ret2
                        exact ⟨_, by first | rfl | (simp [errW_none, errW_some] <;> rfl) | (simp [*, errW_none, errW_some] <;> rfl), by first | exact Kd.R_nil _ _ _ _ _ | exact Kd.N_nil _ _ _ _ _ | exact Kd.V_nil _ _ _ _ _ | exact Kd.Q_nil _ _ _ _ _ | exact Kd.S_nil _ _ _ _ _, by repeat (first | (with_reducible first | exact HB.out | apply below_alloc | apply pw_below_drewN | apply below_drew1 | refine below_set ?_ GE312.out) | exact HB.out)⟩
                      · rw [if_neg c37] at H
                        have c37b0 : decide (4194304 < (t326.length : Int)) = false := decide_eq_false c37
                        have c37b1 : decide (4194304 < t326.length) = false := decide_eq_false (by omega)
                        clear c37
                        replace H := Option.bind_eq_some_iff.mp H
                        obtain ⟨t329, A420, H⟩ := H
                        replace H : (some (t329, 0)) = some (r1, r2) := H
                        have A42 := Aside0.mk A420
                        clear A420
                        simp only [Option.some.injEq, Prod.mk.injEq] at H
                        obtain ⟨rfl, rfl⟩ := H
                        have hcz43_0 : wc.cell? ⟨gb312, 0, none⟩ = some (.int .i64 a0_0) := (blk_cell BK312.out 0).trans rfl
                        have hcz43_1 : wc.cell? ⟨gb312, 1, none⟩ = some (.slice A0_1 l0_1.length c0_1) := (blk_cell BK312.out 1).trans rfl
                        have hcz43_2 : wc.cell? ⟨gb312, 2, none⟩ = some (.string a0_2) := (blk_cell BK312.out 2).trans rfl
                        have hcz43_3 : wc.cell? ⟨gb312, 3, none⟩ = some (.int .i64 a0_3) := (blk_cell BK312.out 3).trans rfl
                        have hfz43_0 := blk_frozen BK312.out 0
                        have hfz43_1 := blk_frozen BK312.out 1
                        have hfz43_2 := blk_frozen BK312.out 2
                        have hfz43_3 := blk_frozen BK312.out 3
                        obtain ⟨Ao44, co44, eo44⟩ := Kd.R_slice HO_4.out
                        subst eo44
                        go_wp2_with (first | ((with_reducible refine gate_callee (f := 25) rfl ?_); refine goesL_ (some 67) rfl rfl Try.func25 (by kernel_rfl) rfl #[.slice Ao44 x4_2.length co44, .string a0_2] rfl (by (try simp only [List.map_toArray, List.map_cons, List.map_nil]); first | done | rfl | (simp only [List.length_drop, List.length_take]; rfl)) ?_; (with_reducible refine (proto_text.calls kj29 (fun k_ => some k_ = (.slice Ao44 x4_2.length co44 : Value).ownBlock) (.slice Ao44 x4_2.length co44) x4_2 a0_2 t326 w _ ?side1 ?side2 A36.out).mono ?_); (case side1 => repeat (first | (with_reducible first | exact HB.out | apply below_alloc | apply pw_below_drewN | apply below_drew1 | refine below_set ?_ GE312.out) | exact HB.out)); (case side2 => exact Kd.R_tight rfl HO_4.out); rintro e w45 ⟨v327, rfl, ho0, hb, hkp⟩; refine ⟨_, rfl, ?_⟩; have n0_ := Aside0.mk (blk_kept (by (with_reducible repeat (first | refine blk_drewN ?_ _ | refine blk_drew ?_ | refine blk_alloc ?_ _)); exact BK312.out) hkp (fun hs_ => (fun e_ => (Kd.R_ne HO_4.out BK312.out (by decide)) e_) hs_)); have n1_ := Aside0.mk (Kd.R_mono (ok' := fun k_ => True) ho0 (fun k_ hk_ => trivial)); have n2_ := Aside0.mk (hb); clear BK312; clear HB; clear HO_4; have BK312 := n0_; have HO328 := n1_; have HB := n2_; clear n0_ n1_ n2_; (try clear hb); (try clear hkp); (try clear ho0); obtain ⟨Ao46, co46, eo46⟩ := Kd.R_slice HO328.out; subst eo46) | ((with_reducible refine gate_callee (f := 26) rfl ?_); refine goesL_ (some 72) rfl rfl Try.func26 (by kernel_rfl) rfl #[.int .i64 200, .slice Ao46 t326.length co46] rfl (by (try simp only [List.map_toArray, List.map_cons, List.map_nil]); first | done | rfl | (simp only [List.length_drop, List.length_take]; rfl)) ?_; (with_reducible refine (proto_frame.calls kj29 200 _ _ t326 t329 _ ?side1 ?side2 A42.out).mono ?_); (case side1 => repeat (first | exact (Kd.R_reads' HO328.out).2.2 | (with_reducible refine Kd.C_alloc ?_ _) | (with_reducible refine Kd.C_drewN ?_ _) | (with_reducible refine Kd.C_drew ?_))); (case side2 => exact (Kd.R_reads' HO328.out).2.1); rintro e w47 ⟨v330, rfl, ho0, hb⟩; refine ⟨_, rfl, ?_⟩; have n0_ := Aside0.mk (Kd.R_elder' (by (with_reducible repeat (first | apply Kd.R_alloc | apply Kd.R_drewN | apply Kd.R_drew)); exact HO328.out) (Kd.R_base ho0) hb); have n1_ := Aside0.mk (Kd.R_lower (Kd.R_new' ho0 (Kd.R_lt (by (with_reducible repeat (first | apply Kd.R_alloc | apply Kd.R_drewN | apply Kd.R_drew)); exact HO328.out))) (below_size (by repeat (first | (with_reducible first | exact HB.out | apply below_alloc | apply pw_below_drewN | apply below_drew1 | refine below_set ?_ GE312.out) | exact HB.out)))); have n2_ := Aside0.mk (blk_below (g := gb312) (o := .cells #[.int .i64 a0_0, .slice A0_1 l0_1.length c0_1, .string a0_2, .int .i64 a0_3] 48 (0, 0)) (by (with_reducible repeat (first | refine blk_drewN ?_ _ | refine blk_drew ?_ | refine blk_alloc ?_ _)); exact BK312.out) hb); have n3_ := Aside0.mk (below_step (by repeat (first | (with_reducible first | exact HB.out | apply below_alloc | apply pw_below_drewN | apply below_drew1 | refine below_set ?_ GE312.out) | exact HB.out)) hb); clear HO328; clear BK312; clear HB; have HO328 := n0_; have HO331 := n1_; have BK312 := n2_; have HB := n3_; clear n0_ n1_ n2_ n3_; (try clear hb); (try clear hb2); (try clear hk); (try clear hi); (try clear ho0)))
                        go_ret2
                        exact ⟨_, by first | rfl | (simp [errW_none, errW_some] <;> rfl) | (simp [*, errW_none, errW_some] <;> rfl), by (with_reducible repeat (first | apply Kd.R_alloc | apply Kd.R_drewN | apply Kd.R_drew)); exact Kd.R_mono HO331.out (fun _ hk => trivial), by repeat (first | (with_reducible first | exact HB.out | apply below_alloc | apply pw_below_drewN | apply below_drew1 | refine below_set ?_ GE312.out) | exact HB.out)⟩

end Go.Proofs.Ytoblfdloakkmmaa.Mp
