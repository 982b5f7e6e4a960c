-- Laid by a program of this session out of the kit's print, changed; see NOTES.md
import Derived.Test.YtfnofjcdaghniaaDoorMt0
import Derived.Test.YtfnofjcdaghniaaDoorMt1
namespace Go.Proofs.YtfnofjcdaghniaaDoor.Mt
open Go.RowKit Go.Proofs.YtfnofjcdaghniaaDoorW.PrintWords Go.Proofs.YtfnofjcdaghniaaDoorW.PrintLast Go.Proofs.YtfnofjcdaghniaaDoorW.PrintMore
attribute [local go_sem] max2_int min2_int max_two min_two max_three min_three max_four min_four   -- for this text's walks alone
set_option linter.unusedVariables false
set_option linter.unusedSimpArgs false





/-! ### pantryref4_count: function 43 -/
mutual
def pantryref4_count.j0 : Nat → Int → Int → Int → Bool → List Int → List ByteArray → List (S26) → Option (Int × Int)
  | 0, _, _, _, _, _, _, _ => none
  | k + 1, x4, x5, x462000, x462001, x462002, x462003, x462004 => pantryref4_count.l0 k x4 x5 0 x462000 x462001 x462002 x462003 x462004
def pantryref4_count.l0 : Nat → Int → Int → Int → Int → Bool → List Int → List ByteArray → List (S26) → Option (Int × Int)
  | 0, _, _, _, _, _, _, _, _ => none
  | k + 1, x4, x5, x6, x462000, x462001, x462002, x462003, x462004 => if x6 < (x462004.length : Int) then (if 0 ≤ x6 then ((pantryref4_count.f k ((rd_T26 x462004 x6).f0) ((rd_T26 x462004 x6).f1) ((rd_T26 x462004 x6).f2) ((rd_T26 x462004 x6).f3) ((rd_T26 x462004 x6).f4)).bind fun bt463 => (pantryref4_count.l0 k (wrap64 (x4 + bt463.1)) (wrap64 (x5 + bt463.2)) (wrap64 (x6 + 1)) x462000 x462001 x462002 x462003 x462004)) else (none)) else (some (x4, x5))
def pantryref4_count.f : Nat → Int → Bool → List Int → List ByteArray → List (S26) → Option (Int × Int)
  | 0, _, _, _, _, _ => none
  | k + 1, a0_0, a0_1, l0_2, l0_3, l0_4 => if a0_0 = 1 then (pantryref4_count.j0 k 1 (l0_2.length : Int) a0_0 a0_1 l0_2 l0_3 l0_4) else (pantryref4_count.j0 k 1 0 a0_0 a0_1 l0_2 l0_3 l0_4)
end
theorem pantryref4_count.mono_l : ∀ k, (∀ y0 y1 y2 y3 y4, LeO (pantryref4_count.f k y0 y1 y2 y3 y4) (pantryref4_count.f (k + 1) y0 y1 y2 y3 y4)) ∧ (∀ y0 y1 y2 y3 y4 y5 y6, LeO (pantryref4_count.j0 k y0 y1 y2 y3 y4 y5 y6) (pantryref4_count.j0 (k + 1) y0 y1 y2 y3 y4 y5 y6)) ∧ (∀ y0 y1 y2 y3 y4 y5 y6 y7, LeO (pantryref4_count.l0 k y0 y1 y2 y3 y4 y5 y6 y7) (pantryref4_count.l0 (k + 1) y0 y1 y2 y3 y4 y5 y6 y7))
  | 0 => ⟨fun _ _ _ _ _ r h => by simp [pantryref4_count.f] at h, fun _ _ _ _ _ _ _ r h => by simp [pantryref4_count.j0] at h, fun _ _ _ _ _ _ _ _ r h => by simp [pantryref4_count.l0] at h⟩
  | k + 1 => by
    obtain ⟨ih0, ih1, ih2⟩ := pantryref4_count.mono_l k
    refine ⟨?_, ?_, ?_⟩
    · intro y0 y1 y2 y3 y4
      unfold pantryref4_count.f
      repeat' first
      | (with_reducible exact ih0 _ _ _ _ _)
      | (with_reducible exact ih1 _ _ _ _ _ _ _)
      | (with_reducible exact ih2 _ _ _ _ _ _ _ _)
      | (with_reducible exact LeO.refl _)
      | (with_reducible exact LeO.none _)
      | (with_reducible refine LeO.ite ?_ ?_)
      | (with_reducible refine LeO.bind ?_ (fun _ => ?_))
      | exact ih0 _ _ _ _ _
      | exact ih1 _ _ _ _ _ _ _
      | exact ih2 _ _ _ _ _ _ _ _
      | exact LeO.none _
      | refine LeO.ite ?_ ?_
      | refine LeO.bind ?_ (fun _ => ?_)
    · intro y0 y1 y2 y3 y4 y5 y6
      unfold pantryref4_count.j0
      repeat' first
      | (with_reducible exact ih0 _ _ _ _ _)
      | (with_reducible exact ih1 _ _ _ _ _ _ _)
      | (with_reducible exact ih2 _ _ _ _ _ _ _ _)
      | (with_reducible exact LeO.refl _)
      | (with_reducible exact LeO.none _)
      | (with_reducible refine LeO.ite ?_ ?_)
      | (with_reducible refine LeO.bind ?_ (fun _ => ?_))
      | exact ih0 _ _ _ _ _
      | exact ih1 _ _ _ _ _ _ _
      | exact ih2 _ _ _ _ _ _ _ _
      | exact LeO.none _
      | refine LeO.ite ?_ ?_
      | refine LeO.bind ?_ (fun _ => ?_)
    · intro y0 y1 y2 y3 y4 y5 y6 y7
      unfold pantryref4_count.l0
      repeat' first
      | (with_reducible exact ih0 _ _ _ _ _)
      | (with_reducible exact ih1 _ _ _ _ _ _ _)
      | (with_reducible exact ih2 _ _ _ _ _ _ _ _)
      | (with_reducible exact LeO.refl _)
      | (with_reducible exact LeO.none _)
      | (with_reducible refine LeO.ite ?_ ?_)
      | (with_reducible refine LeO.bind ?_ (fun _ => ?_))
      | exact ih0 _ _ _ _ _
      | exact ih1 _ _ _ _ _ _ _
      | exact ih2 _ _ _ _ _ _ _ _
      | exact LeO.none _
      | refine LeO.ite ?_ ?_
      | refine LeO.bind ?_ (fun _ => ?_)
theorem pantryref4_count.mono : ∀ a0 a1 a2 a3 a4 k, LeO (pantryref4_count.f k a0 a1 a2 a3 a4) (pantryref4_count.f (k + 1) a0 a1 a2 a3 a4) := by
  intro a0 a1 a2 a3 a4 k
  obtain ⟨ih0, ih1, ih2⟩ := pantryref4_count.mono_l k
  exact ih0 a0 a1 a2 a3 a4
set_option maxHeartbeats 8000000 in
set_option maxRecDepth 100000 in
theorem pantryref4_count.calls (k : Nat) : ∀ (a0_0 : Int) (a0_1 : Bool) (A0_2 : Option Addr) (c0_2 : Nat) (l0_2 : List Int) (A0_3 : Option Addr) (c0_3 : Nat) (l0_3 : List ByteArray) (A0_4 : Option Addr) (c0_4 : Nat) (l0_4 : List (S26)) (r1 : Int) (r2 : Int) (w : World) (hr0_2 : Kd.C (Kd.int .u8) w A0_2 l0_2.length l0_2) (hc0_2 : l0_2.length ≤ c0_2) (hr0_3 : Kd.C Kd.string w A0_3 l0_3.length l0_3) (hc0_3 : l0_3.length ≤ c0_3) (hr0_4 : Kd.C k26 w A0_4 l0_4.length l0_4) (hc0_4 : l0_4.length ≤ c0_4) (h : pantryref4_count.f k a0_0 a0_1 l0_2 l0_3 l0_4 = some (r1, r2)),
    Calls Tryd.prog 43 #[.agg #[.int .i64 a0_0, .bool a0_1, .slice A0_2 l0_2.length c0_2, .slice A0_3 l0_3.length c0_3, .slice A0_4 l0_4.length c0_4]] w fun e w' => e = .returned (.tuple #[.int .i64 r1, .int .i64 r2]) ∧ Below w.heap.size w w' := by
  induction k using Nat.strongRecOn with
  | _ k ih =>
  intro a0_0 a0_1 A0_2 c0_2 l0_2 A0_3 c0_3 l0_3 A0_4 c0_4 l0_4 r1 r2 w hr0_2 hc0_2 hr0_3 hc0_3 hr0_4 hc0_4 h
  cases k with
  | zero => exact absurd h (by simp [pantryref4_count.f])
  | succ k =>
  simp only [pantryref4_count.f] at h
  have hu26 := Tryd.underlying26
  have HR0_2 := Aside0.mk hr0_2
  have HC0_2 := Aside0.mk hc0_2
  clear hr0_2 hc0_2
  have HR0_3 := Aside0.mk hr0_3
  have HC0_3 := Aside0.mk hc0_3
  clear hr0_3 hc0_3
  have HR0_4 := Aside0.mk hr0_4
  have HC0_4 := Aside0.mk hc0_4
  clear hr0_4 hc0_4
  have HB := Aside0.mk (Below.refl w.heap.size w)
  have H : (if a0_0 = 1 then (pantryref4_count.j0 k 1 (l0_2.length : Int) a0_0 a0_1 l0_2 l0_3 l0_4) else (pantryref4_count.j0 k 1 0 a0_0 a0_1 l0_2 l0_3 l0_4)) = some (r1, r2) := h
  clear h
  have HC2 := Aside0.mk H
  clear H
  go_enter Tryd.func43, Tryd.ntmps43
  go_upto_if 11 with (first | ((with_reducible refine gate_dst (N := 1) rfl ?_); refine box_event ?hg (N := 1) ?hd (cs := #[.int .i64 a0_0, .bool a0_1, .slice A0_2 l0_2.length c0_2, .slice A0_3 l0_3.length c0_3, .slice A0_4 l0_4.length c0_4]) (t := 26) ?hr ?_; (case hd => rfl); (case hg => rfl); (case hr => first | (go_simp; done) | (go_simp; rfl)); intro gb461 hg w3 hbox hb; have n0_ := Aside0.mk (below_step (by repeat (first | (with_reducible first | exact HB.out | apply below_alloc | apply pw_below_drewN | apply below_drew1) | exact HB.out)) hb); have n1_ := Aside0.mk (hbox); have n2_ := Aside0.mk ((by rw [hg]; exact (below_size (by repeat (first | (with_reducible first | exact HB.out | apply below_alloc | apply pw_below_drewN | apply below_drew1) | exact HB.out))) : w.heap.size ≤ gb461)); have n3_ := Aside0.mk ((by rw [hg]; exact (below_size (by repeat (first | (with_reducible first | exact HB.out | apply below_alloc | apply pw_below_drewN | apply below_drew1) | exact HB.out))) : w.heap.size ≤ gb461)); clear HB; have HB := n0_; have BK461 := n1_; have GW461 := n2_; have GE461 := n3_; clear n0_ n1_ n2_ n3_; clear hb hbox hg; have hcz4_0 : w3.cell? ⟨gb461, 0, none⟩ = some (.int .i64 a0_0) := (blk_cell BK461.out 0).trans rfl; have hcz4_1 : w3.cell? ⟨gb461, 1, none⟩ = some (.bool a0_1) := (blk_cell BK461.out 1).trans rfl; have hcz4_2 : w3.cell? ⟨gb461, 2, none⟩ = some (.slice A0_2 l0_2.length c0_2) := (blk_cell BK461.out 2).trans rfl; have hcz4_3 : w3.cell? ⟨gb461, 3, none⟩ = some (.slice A0_3 l0_3.length c0_3) := (blk_cell BK461.out 3).trans rfl; have hcz4_4 : w3.cell? ⟨gb461, 4, none⟩ = some (.slice A0_4 l0_4.length c0_4) := (blk_cell BK461.out 4).trans rfl; have hfz4_0 := blk_frozen BK461.out 0; have hfz4_1 := blk_frozen BK461.out 1; have hfz4_2 := blk_frozen BK461.out 2; have hfz4_3 := blk_frozen BK461.out 3; have hfz4_4 := blk_frozen BK461.out 4))
  (try simp only [Act.put, List.setIfInBounds_toArray, List.set_cons_zero, List.set_cons_succ])
  go_cut [5] (fun v5 wc => ∃ (kq : Nat) (x5_1 : Int), v5 = .int .i64 x5_1 ∧ Aside0 (pantryref4_count.j0 kq 1 x5_1 a0_0 a0_1 l0_2 l0_3 l0_4 = some (r1, r2)) ∧ Aside0 (kq ≤ k) ∧ Aside0 (wc.heap[gb461]? = some (.cells #[.int .i64 a0_0, .bool a0_1, (.slice A0_2 l0_2.length c0_2), (.slice A0_3 l0_3.length c0_3), (.slice A0_4 l0_4.length c0_4)] 26 (0, 0))) ∧ Aside0 (Below w.heap.size w wc))
  case first =>
    have H := HC2.out
    clear HC2
    by_cases c5 : a0_0 = 1
    · rw [if_pos c5] at H
      have c5b0 : (a0_0 == 1) = true := beq_iff_eq.mpr c5
      have c5b1 : (a0_0 != 1) = false := bne_eq_false_iff_eq.mpr c5
      clear c5
      (first | rw [c5b0] | (simp only [i64_w, i32_w]; rw [c5b0]) | skip)
      have H' := Aside0.mk H
      clear H
      have hcz6_0 : w3.cell? ⟨gb461, 0, none⟩ = some (.int .i64 a0_0) := (blk_cell BK461.out 0).trans rfl
      have hcz6_1 : w3.cell? ⟨gb461, 1, none⟩ = some (.bool a0_1) := (blk_cell BK461.out 1).trans rfl
      have hcz6_2 : w3.cell? ⟨gb461, 2, none⟩ = some (.slice A0_2 l0_2.length c0_2) := (blk_cell BK461.out 2).trans rfl
      have hcz6_3 : w3.cell? ⟨gb461, 3, none⟩ = some (.slice A0_3 l0_3.length c0_3) := (blk_cell BK461.out 3).trans rfl
      have hcz6_4 : w3.cell? ⟨gb461, 4, none⟩ = some (.slice A0_4 l0_4.length c0_4) := (blk_cell BK461.out 4).trans rfl
      have hfz6_0 := blk_frozen BK461.out 0
      have hfz6_1 := blk_frozen BK461.out 1
      have hfz6_2 := blk_frozen BK461.out 2
      have hfz6_3 := blk_frozen BK461.out 3
      have hfz6_4 := blk_frozen BK461.out 4
      go_wp2
      go_meet
      case rel => exact ⟨_, ((l0_2.length : Int)), (by first | rfl | (simp; done) | (simp [*]; done)), H', ⟨by first | omega | exact Nat.le_refl _⟩, ⟨by (with_reducible repeat (first | refine blk_drewN ?_ _ | refine blk_drew ?_ | refine blk_alloc ?_ _)); exact BK461.out⟩, ⟨by repeat (first | (with_reducible first | exact HB.out | apply below_alloc | apply pw_below_drewN | apply below_drew1 | refine below_set ?_ GE461.out) | exact HB.out)⟩⟩
    · rw [if_neg c5] at H
      have c5b0 : (a0_0 == 1) = false := beq_eq_false_iff_ne.mpr c5
      have c5b1 : (a0_0 != 1) = true := bne_iff_ne.mpr c5
      (first | rw [c5b0] | (simp only [i64_w, i32_w]; rw [c5b0]) | skip)
      have H' := Aside0.mk H
      clear H
      go_wp2
      go_meet
      case rel => exact ⟨_, (0), (by first | rfl | (simp; done) | (simp [*]; done)), H', ⟨by first | omega | exact Nat.le_refl _⟩, ⟨by (with_reducible repeat (first | refine blk_drewN ?_ _ | refine blk_drew ?_ | refine blk_alloc ?_ _)); exact BK461.out⟩, ⟨by repeat (first | (with_reducible first | exact HB.out | apply below_alloc | apply pw_below_drewN | apply below_drew1 | refine below_set ?_ GE461.out) | exact HB.out)⟩⟩
  case rest =>
    clear HC2
    try clear p2
    try clear c4
    try clear c5
    try clear c5b0
    try clear c5b1
    try clear hcz4_0
    try clear hcz4_1
    try clear hcz4_2
    try clear hcz4_3
    try clear hcz4_4
    try clear hcz6_0
    try clear hcz6_1
    try clear hcz6_2
    try clear hcz6_3
    try clear hcz6_4
    try clear hfz4_0
    try clear hfz4_1
    try clear hfz4_2
    try clear hfz4_3
    try clear hfz4_4
    try clear hfz6_0
    try clear hfz6_1
    try clear hfz6_2
    try clear hfz6_3
    try clear hfz6_4
    obtain ⟨kq, x5_1, rfl, HA, HJ1, BK461, HB⟩ := hcut
    cases kq with
    | zero => exact absurd HA.out (by simp [pantryref4_count.j0])
    | succ kj1 =>
      have H := HA.out
      clear HA
      simp only [pantryref4_count.j0] at H
      have H' := Aside0.mk H
      clear H
      go_wp2
      go_loopg [4, 5, 6] kj1 (fun kq v4 v5 v6 w' => ∃ (x4_2 : Int) (x5_2 : Int) (x6_2 : Int), v4 = .int .i64 x4_2 ∧ v5 = .int .i64 x5_2 ∧ v6 = .int .i64 x6_2 ∧ Aside0 (pantryref4_count.l0 kq x4_2 x5_2 x6_2 a0_0 a0_1 l0_2 l0_3 l0_4 = some (r1, r2)) ∧ Aside0 (kq ≤ kj1) ∧ Aside0 (w'.heap[gb461]? = some (.cells #[.int .i64 a0_0, .bool a0_1, (.slice A0_2 l0_2.length c0_2), (.slice A0_3 l0_3.length c0_3), (.slice A0_4 l0_4.length c0_4)] 26 (0, 0))) ∧ Aside0 (Below w.heap.size w w'))
      case atStart => exact ⟨(1), (x5_1), (0), (by first | rfl | (simp; done) | (simp [*]; done)), (by first | rfl | (simp; done) | (simp [*]; done)), (by first | rfl | (simp; done) | (simp [*]; done)), H', ⟨Nat.le_refl _⟩, ⟨by (with_reducible repeat (first | refine blk_drewN ?_ _ | refine blk_drew ?_ | refine blk_alloc ?_ _)); exact BK461.out⟩, ⟨by repeat (first | (with_reducible first | exact HB.out | apply below_alloc | apply pw_below_drewN | apply below_drew1 | refine below_set ?_ GE461.out) | exact HB.out)⟩⟩
      case round =>
        clear H'
        try clear p2
        try clear c4
        try clear c5
        try clear c5b0
        try clear c5b1
        try clear hcz4_0
        try clear hcz4_1
        try clear hcz4_2
        try clear hcz4_3
        try clear hcz4_4
        try clear hcz6_0
        try clear hcz6_1
        try clear hcz6_2
        try clear hcz6_3
        try clear hcz6_4
        try clear hfz4_0
        try clear hfz4_1
        try clear hfz4_2
        try clear hfz4_3
        try clear hfz4_4
        try clear hfz6_0
        try clear hfz6_1
        try clear hfz6_2
        try clear hfz6_3
        try clear hfz6_4
        try clear p2
        obtain ⟨x4_2, x5_2, x6_2, rfl, rfl, rfl, HA, HK2, BK461, HB⟩ := hrel
        cases gk with
        | zero => exact absurd HA.out (by simp [pantryref4_count.l0])
        | succ k2 =>
          have H := HA.out
          clear HA
          simp only [pantryref4_count.l0] at H
          by_cases c7 : x6_2 < (l0_4.length : Int)
          · rw [if_pos c7] at H
            have c7b0 : decide (x6_2 < (l0_4.length : Int)) = true := decide_eq_true c7
            clear c7
            by_cases c8 : 0 ≤ x6_2
            · rw [if_pos c8] at H
              have c8b0 : decide (0 ≤ x6_2) = true := decide_eq_true c8
              clear c8
              replace H := Option.bind_eq_some_iff.mp H
              obtain ⟨⟨t463, t464⟩, A90, H⟩ := H
              replace H : (pantryref4_count.l0 k2 (wrap64 (x4_2 + t463)) (wrap64 (x5_2 + t464)) (wrap64 (x6_2 + 1)) a0_0 a0_1 l0_2 l0_3 l0_4) = some (r1, r2) := H
              have A9 := Aside0.mk A90
              clear A90
              have H' := Aside0.mk H
              clear H
              have hcz10_0 : wr.cell? ⟨gb461, 0, none⟩ = some (.int .i64 a0_0) := (blk_cell BK461.out 0).trans rfl
              have hcz10_1 : wr.cell? ⟨gb461, 1, none⟩ = some (.bool a0_1) := (blk_cell BK461.out 1).trans rfl
              have hcz10_2 : wr.cell? ⟨gb461, 2, none⟩ = some (.slice A0_2 l0_2.length c0_2) := (blk_cell BK461.out 2).trans rfl
              have hcz10_3 : wr.cell? ⟨gb461, 3, none⟩ = some (.slice A0_3 l0_3.length c0_3) := (blk_cell BK461.out 3).trans rfl
              have hcz10_4 : wr.cell? ⟨gb461, 4, none⟩ = some (.slice A0_4 l0_4.length c0_4) := (blk_cell BK461.out 4).trans rfl
              have hfz10_0 := blk_frozen BK461.out 0
              have hfz10_1 := blk_frozen BK461.out 1
              have hfz10_2 := blk_frozen BK461.out 2
              have hfz10_3 := blk_frozen BK461.out 3
              have hfz10_4 := blk_frozen BK461.out 4
              have p462 : 0 ≤ (x6_2 : Int) := of_decide_eq_true (by first | (with_reducible assumption) | assumption)
              have q462 : x6_2 < (l0_4.length : Int) := of_decide_eq_true (by first | (with_reducible assumption) | assumption)
              obtain ⟨ad462, A462_2, c462_2, A462_3, c462_3, A462_4, c462_4, e462, hx462_0, hx462_1, hx462_2, hx462_3, hx462_4, hl462_2, hi462_2, hl462_3, hi462_3, hl462_4, hi462_4⟩ := at_T26 HR0_4.out x6_2 p462 q462
              cases e462
              replace hx462_0 := (HB.out.cell (World.block_lt_of_cell? w _ hx462_0)).trans hx462_0
              replace hx462_1 := (HB.out.cell (World.block_lt_of_cell? w _ hx462_1)).trans hx462_1
              replace hx462_2 := (HB.out.cell (World.block_lt_of_cell? w _ hx462_2)).trans hx462_2
              replace hx462_3 := (HB.out.cell (World.block_lt_of_cell? w _ hx462_3)).trans hx462_3
              replace hx462_4 := (HB.out.cell (World.block_lt_of_cell? w _ hx462_4)).trans hx462_4
              have HR462_2 := Aside0.mk hi462_2
              have HC462_2 := Aside0.mk hl462_2
              clear hi462_2 hl462_2
              have HR462_3 := Aside0.mk hi462_3
              have HC462_3 := Aside0.mk hl462_3
              clear hi462_3 hl462_3
              have HR462_4 := Aside0.mk hi462_4
              have HC462_4 := Aside0.mk hl462_4
              clear hi462_4 hl462_4
              replace p462 := eq_true p462
              replace q462 := eq_true q462
              go_wp2_with (first | ((with_reducible refine gate_callee (f := 43) rfl ?_); refine goesL_ (some 28) rfl rfl Tryd.func43 (by kernel_rfl) rfl #[.agg #[.int .i64 ((rd_T26 l0_4 x6_2).f0), .bool ((rd_T26 l0_4 x6_2).f1), .slice A462_2 ((rd_T26 l0_4 x6_2).f2).length c462_2, .slice A462_3 ((rd_T26 l0_4 x6_2).f3).length c462_3, .slice A462_4 ((rd_T26 l0_4 x6_2).f4).length c462_4]] rfl (by (try simp only [List.map_toArray, List.map_cons, List.map_nil]); first | done | rfl | (simp only [List.length_drop, List.length_take]; rfl)) ?_; (with_reducible refine (ih k2 (by have := HJ1.out; have := HK2.out; omega) ((rd_T26 l0_4 x6_2).f0) ((rd_T26 l0_4 x6_2).f1) _ _ ((rd_T26 l0_4 x6_2).f2) _ _ ((rd_T26 l0_4 x6_2).f3) _ _ ((rd_T26 l0_4 x6_2).f4) t463 t464 _ ?side1 ?side2 ?side3 ?side4 ?side5 ?side6 A9.out).mono ?_); (case side1 => repeat (first | exact (Kd.C_below HR462_2.out HB.out) | (with_reducible refine Kd.C_alloc ?_ _) | (with_reducible refine Kd.C_drewN ?_ _) | (with_reducible refine Kd.C_drew ?_))); (case side2 => exact HC462_2.out); (case side3 => repeat (first | exact (Kd.C_below HR462_3.out HB.out) | (with_reducible refine Kd.C_alloc ?_ _) | (with_reducible refine Kd.C_drewN ?_ _) | (with_reducible refine Kd.C_drew ?_))); (case side4 => exact HC462_3.out); (case side5 => repeat (first | exact (Kd.C_below HR462_4.out HB.out) | (with_reducible refine Kd.C_alloc ?_ _) | (with_reducible refine Kd.C_drewN ?_ _) | (with_reducible refine Kd.C_drew ?_))); (case side6 => exact HC462_4.out); rintro e w11 ⟨rfl, hb⟩; refine ⟨_, rfl, ?_⟩; have n0_ := Aside0.mk (blk_below (g := gb461) (o := .cells #[.int .i64 a0_0, .bool a0_1, .slice A0_2 l0_2.length c0_2, .slice A0_3 l0_3.length c0_3, .slice (some ad462) l0_4.length c0_4] 26 (0, 0)) (by (with_reducible repeat (first | refine blk_drewN ?_ _ | refine blk_drew ?_ | refine blk_alloc ?_ _)); exact BK461.out) hb); have n1_ := Aside0.mk (below_step (by repeat (first | (with_reducible first | exact HB.out | apply below_alloc | apply pw_below_drewN | apply below_drew1 | refine below_set ?_ GE461.out) | exact HB.out)) hb); clear BK461; clear HB; have BK461 := n0_; have HB := n1_; clear n0_ n1_; (try clear hb); (try clear hb2); (try clear hk); (try clear hi)))
              go_roundg k2
              case measure => have := HJ1.out; have := HK2.out; omega
              case rel => exact ⟨(wrap64 (x4_2 + t463)), (wrap64 (x5_2 + t464)), (wrap64 (x6_2 + 1)), (by first | rfl | (simp; done) | (simp [*]; done)), (by first | rfl | (simp; done) | (simp [*]; done)), (by first | rfl | (simp; done) | (simp [*]; done)), H', ⟨by have := HJ1.out; have := HK2.out; omega⟩, ⟨by (with_reducible repeat (first | refine blk_drewN ?_ _ | refine blk_drew ?_ | refine blk_alloc ?_ _)); exact BK461.out⟩, ⟨by repeat (first | (with_reducible first | exact HB.out | apply below_alloc | apply pw_below_drewN | apply below_drew1 | refine below_set ?_ GE461.out) | exact HB.out)⟩⟩
            · rw [if_neg c8] at H
              exact absurd H (by simp)
          · rw [if_neg c7] at H
            have c7b0 : decide (x6_2 < (l0_4.length : Int)) = false := decide_eq_false c7
            clear c7
            simp only [Option.some.injEq, Prod.mk.injEq] at H
            obtain ⟨rfl, rfl⟩ := H
            have hcz12_0 : wr.cell? ⟨gb461, 0, none⟩ = some (.int .i64 a0_0) := (blk_cell BK461.out 0).trans rfl
            have hcz12_1 : wr.cell? ⟨gb461, 1, none⟩ = some (.bool a0_1) := (blk_cell BK461.out 1).trans rfl
            have hcz12_2 : wr.cell? ⟨gb461, 2, none⟩ = some (.slice A0_2 l0_2.length c0_2) := (blk_cell BK461.out 2).trans rfl
            have hcz12_3 : wr.cell? ⟨gb461, 3, none⟩ = some (.slice A0_3 l0_3.length c0_3) := (blk_cell BK461.out 3).trans rfl
            have hcz12_4 : wr.cell? ⟨gb461, 4, none⟩ = some (.slice A0_4 l0_4.length c0_4) := (blk_cell BK461.out 4).trans rfl
            have hfz12_0 := blk_frozen BK461.out 0
            have hfz12_1 := blk_frozen BK461.out 1
            have hfz12_2 := blk_frozen BK461.out 2
            have hfz12_3 := blk_frozen BK461.out 3
            have hfz12_4 := blk_frozen BK461.out 4
            go_wp2
            go_ret2
            exact ⟨by first | rfl | (simp [errW_none, errW_some] <;> rfl) | (simp [*, errW_none, errW_some] <;> rfl), by repeat (first | (with_reducible first | exact HB.out | apply below_alloc | apply pw_below_drewN | apply below_drew1 | refine below_set ?_ GE461.out) | exact HB.out)⟩


/-! ### bytes_Equal: function 59 -/
def bytes_Equal.f (l0 : List Int) (l1 : List Int) : Option (Bool) := some ((strOfNums l0).toList == (strOfNums l1).toList)
set_option maxHeartbeats 8000000 in
set_option maxRecDepth 100000 in
theorem bytes_Equal.calls (A0 : Option Addr) (c0 : Nat) (l0 : List Int) (A1 : Option Addr) (c1 : Nat) (l1 : List Int) (r : Bool) (w : World) (hr0 : Kd.C (Kd.int .u8) w A0 l0.length l0) (hc0 : l0.length ≤ c0) (hr1 : Kd.C (Kd.int .u8) w A1 l1.length l1) (hc1 : l1.length ≤ c1) (h : bytes_Equal.f l0 l1 = some r) :
    Calls Tryd.prog 59 #[.slice A0 l0.length c0, .slice A1 l1.length c1] w fun e w' => e = .returned (.bool r) ∧ Drawn0 w w' := by
  have HR0 := Aside0.mk hr0
  have HC0 := Aside0.mk hc0
  clear hr0 hc0
  have HR1 := Aside0.mk hr1
  have HC1 := Aside0.mk hc1
  clear hr1 hc1
  have H : (some ((strOfNums l0).toList == (strOfNums l1).toList)) = some r := h
  clear h
  obtain rfl := Option.some.inj H
  have hcv3 := Kd.C_string (P := Tryd.prog) (A := A0) (c := c0) Tryd.underlying22 Tryd.underlying5 Tryd.underlying9 HR0.out
  have hcv4 := Kd.C_string (P := Tryd.prog) (A := A1) (c := c1) Tryd.underlying22 Tryd.underlying5 Tryd.underlying9 HR1.out
  go_enter Tryd.func59, Tryd.ntmps59
  go_wp2
  go_ret
  exact ⟨by first | rfl | (simp; done) | (simp [*]; done), by repeat (first | exact Drawn0.refl _ | apply Drawn0.step)⟩


end Go.Proofs.YtfnofjcdaghniaaDoor.Mt
