-- Laid by a program of this session out of the kit's print, changed; see NOTES.md
import Derived.Test.YtfnofjcdaghniaaDoorMt0
import Derived.Test.YtfnofjcdaghniaaDoorClA
import Derived.Test.YtfnofjcdaghniaaDoorMt1
import Derived.Test.YtfnofjcdaghniaaDoorEqA
import Derived.Test.YtfnofjcdaghniaaDoorRfQ
namespace Go.Proofs.YtfnofjcdaghniaaDoor.Mt
open Go.Proofs.YtfnofjcdaghniaaDoor Go.RowKit Go.Proofs.YtfnofjcdaghniaaDoorW.PrintWords Go.Proofs.YtfnofjcdaghniaaDoorW.PrintLast Go.Proofs.YtfnofjcdaghniaaDoorW.PrintMore
attribute [local go_sem] max2_int min2_int max_two min_two max_three min_three max_four min_four   -- for this text's walks alone
set_option linter.unusedVariables false
set_option linter.unusedSimpArgs false

/-! ### slices_Clone_string_string: function 49 -/
def slices_Clone_string_string.f (l0 : List ByteArray) : Option (List ByteArray) := if l0.length * 16 ≤ 140737488355320 then some l0 else none
theorem slices_Clone_string_string.calls (A0 : Option Addr) (c0 : Nat) (l0 r : List ByteArray) (w : World) (hr0 : Kd.C Kd.string w A0 l0.length l0) (hc0 : l0.length ≤ c0) (h : slices_Clone_string_string.f l0 = some r) :
    Calls Tryd.prog 49 #[.slice A0 l0.length c0] w fun e w' => ∃ v0_ : Value, e = .returned (v0_) ∧ Kd.R Kd.string 9 w' w.heap.size (fun _ => True) v0_ r ∧ Below w.heap.size w w' := by
  unfold slices_Clone_string_string.f at h
  split at h
  · rename_i hl; obtain rfl := Option.some.inj h; exact Tree.sclone_any A0 c0 l0 w hr0 hl
  · cases h



/-! ### bytes_Clone: function 53 -/
def bytes_Clone.f (l0 : List Int) : Option (List Int) := if l0.length ≤ 140737488355320 then some l0 else none
theorem bytes_Clone.calls (A0 : Option Addr) (c0 : Nat) (l0 r : List Int) (w : World) (hr0 : Kd.C (Kd.int .u8) w A0 l0.length l0) (hc0 : l0.length ≤ c0) (h : bytes_Clone.f l0 = some r) :
    Calls Tryd.prog 53 #[.slice A0 l0.length c0] w fun e w' => ∃ v0_ : Value, e = .returned (v0_) ∧ Kd.R (Kd.int .u8) 5 w' w.heap.size (fun _ => True) v0_ r ∧ Below w.heap.size w w' := by
  unfold bytes_Clone.f at h
  split at h
  · rename_i hl; obtain rfl := Option.some.inj h; exact Tree.bclone_any A0 c0 l0 w hr0 (by omega)
  · cases h



/-! ### tree_own: function 34 -/
mutual
def tree_own.l0 : Nat → List (S26) → List (S26) → Int → Int → Int → Bool → List Int → List ByteArray → List (S26) → Option (Int × Bool × List Int × List ByteArray × (List (S26)))
  | 0, _, _, _, _, _, _, _, _, _ => none
  | k + 1, x3, x15, x16, x17, x183000, x183001, x183002, x183003, x183004 => if x17 < x16 then (if 0 ≤ x17 then (if x17 < (x15.length : Int) then ((tree_own.f k ((rd_T26 x15 x17).f0) ((rd_T26 x15 x17).f1) ((rd_T26 x15 x17).f2) ((rd_T26 x15 x17).f3) ((rd_T26 x15 x17).f4)).bind fun bt192 => (if x3.length < 1599289640401 then (tree_own.l0 k (x3 ++ [(⟨bt192.1, bt192.2.1, bt192.2.2.1, bt192.2.2.2.1, bt192.2.2.2.2⟩ : S26)]) x15 x16 (wrap64 (x17 + 1)) x183000 x183001 x183002 x183003 x183004) else (none))) else (none)) else (none)) else (some (x183000, x183001, x183002, x183003, x3))
def tree_own.f : Nat → Int → Bool → List Int → List ByteArray → List (S26) → Option (Int × Bool × List Int × List ByteArray × (List (S26)))
  | 0, _, _, _, _, _ => none
  | k + 1, a0_0, a0_1, l0_2, l0_3, l0_4 => (bytes_Clone.f l0_2).bind fun t184 => ((slices_Clone_string_string.f l0_3).bind fun t187 => (tree_own.l0 k ([] : List (S26)) l0_4 (l0_4.length : Int) 0 a0_0 a0_1 t184 t187 l0_4))
end
theorem tree_own.mono_l : ∀ k, (∀ y0 y1 y2 y3 y4, LeO (tree_own.f k y0 y1 y2 y3 y4) (tree_own.f (k + 1) y0 y1 y2 y3 y4)) ∧ (∀ y0 y1 y2 y3 y4 y5 y6 y7 y8, LeO (tree_own.l0 k y0 y1 y2 y3 y4 y5 y6 y7 y8) (tree_own.l0 (k + 1) y0 y1 y2 y3 y4 y5 y6 y7 y8))
  | 0 => ⟨fun _ _ _ _ _ r h => by simp [tree_own.f] at h, fun _ _ _ _ _ _ _ _ _ r h => by simp [tree_own.l0] at h⟩
  | k + 1 => by
    obtain ⟨ih0, ih1⟩ := tree_own.mono_l k
    refine ⟨?_, ?_⟩
    · intro y0 y1 y2 y3 y4
      unfold tree_own.f
      repeat' first
      | (with_reducible exact ih0 _ _ _ _ _)
      | (with_reducible exact ih1 _ _ _ _ _ _ _ _ _)
      | (with_reducible exact LeO.refl _)
      | (with_reducible exact LeO.none _)
      | (with_reducible refine LeO.ite ?_ ?_)
      | (with_reducible refine LeO.bind ?_ (fun _ => ?_))
      | exact ih0 _ _ _ _ _
      | exact ih1 _ _ _ _ _ _ _ _ _
      | exact LeO.none _
      | refine LeO.ite ?_ ?_
      | refine LeO.bind ?_ (fun _ => ?_)
    · intro y0 y1 y2 y3 y4 y5 y6 y7 y8
      unfold tree_own.l0
      repeat' first
      | (with_reducible exact ih0 _ _ _ _ _)
      | (with_reducible exact ih1 _ _ _ _ _ _ _ _ _)
      | (with_reducible exact LeO.refl _)
      | (with_reducible exact LeO.none _)
      | (with_reducible refine LeO.ite ?_ ?_)
      | (with_reducible refine LeO.bind ?_ (fun _ => ?_))
      | exact ih0 _ _ _ _ _
      | exact ih1 _ _ _ _ _ _ _ _ _
      | exact LeO.none _
      | refine LeO.ite ?_ ?_
      | refine LeO.bind ?_ (fun _ => ?_)
theorem tree_own.mono : ∀ a0 a1 a2 a3 a4 k, LeO (tree_own.f k a0 a1 a2 a3 a4) (tree_own.f (k + 1) a0 a1 a2 a3 a4) := by
  intro a0 a1 a2 a3 a4 k
  obtain ⟨ih0, ih1⟩ := tree_own.mono_l k
  exact ih0 a0 a1 a2 a3 a4
set_option maxHeartbeats 8000000 in
set_option maxRecDepth 100000 in
theorem tree_own.calls (k : Nat) : ∀ (a0_0 : Int) (a0_1 : Bool) (A0_2 : Option Addr) (c0_2 : Nat) (l0_2 : List Int) (A0_3 : Option Addr) (c0_3 : Nat) (l0_3 : List ByteArray) (A0_4 : Option Addr) (c0_4 : Nat) (l0_4 : List (S26)) (r1 : Int) (r2 : Bool) (r3 : List Int) (r4 : List ByteArray) (r5 : List (S26)) (w : World) (hr0_2 : Kd.C (Kd.int .u8) w A0_2 l0_2.length l0_2) (hc0_2 : l0_2.length ≤ c0_2) (hr0_3 : Kd.C Kd.string w A0_3 l0_3.length l0_3) (hc0_3 : l0_3.length ≤ c0_3) (hr0_4 : Kd.C k26 w A0_4 l0_4.length l0_4) (hc0_4 : l0_4.length ≤ c0_4) (h : tree_own.f k a0_0 a0_1 l0_2 l0_3 l0_4 = some (r1, r2, r3, r4, r5)),
    Calls Tryd.prog 34 #[.agg #[.int .i64 a0_0, .bool a0_1, .slice A0_2 l0_2.length c0_2, .slice A0_3 l0_3.length c0_3, .slice A0_4 l0_4.length c0_4]] w fun e w' => ∃ v2_ v3_ v4_ : Value, e = .returned (.agg #[.int .i64 r1, .bool r2, v2_, v3_, v4_]) ∧ Kd.R (Kd.int .u8) 5 w' w.heap.size (fun _ => True) v2_ r3 ∧ Kd.R Kd.string 9 w' w.heap.size (fun _ => True) v3_ r4 ∧ Kd.R k26 26 w' w.heap.size (fun k_ => some k_ ≠ (v2_ : Value).ownBlock ∧ some k_ ≠ (v3_ : Value).ownBlock) v4_ r5 ∧ Below w.heap.size w w' := by
  induction k using Nat.strongRecOn with
  | _ k ih =>
  intro a0_0 a0_1 A0_2 c0_2 l0_2 A0_3 c0_3 l0_3 A0_4 c0_4 l0_4 r1 r2 r3 r4 r5 w hr0_2 hc0_2 hr0_3 hc0_3 hr0_4 hc0_4 h
  cases k with
  | zero => exact absurd h (by simp [tree_own.f])
  | succ k =>
  simp only [tree_own.f] at h
  have hu26 := Tryd.underlying26
  have HR0_2 := Aside0.mk hr0_2
  have HC0_2 := Aside0.mk hc0_2
  clear hr0_2 hc0_2
  have HR0_3 := Aside0.mk hr0_3
  have HC0_3 := Aside0.mk hc0_3
  clear hr0_3 hc0_3
  have HR0_4 := Aside0.mk hr0_4
  have HC0_4 := Aside0.mk hc0_4
  clear hr0_4 hc0_4
  have HB := Aside0.mk (Below.refl w.heap.size w)
  have H : ((bytes_Clone.f l0_2).bind fun t184 => ((slices_Clone_string_string.f l0_3).bind fun t187 => (tree_own.l0 k ([] : List (S26)) l0_4 (l0_4.length : Int) 0 a0_0 a0_1 t184 t187 l0_4))) = some (r1, r2, r3, r4, r5) := h
  clear h
  replace H := Option.bind_eq_some_iff.mp H
  obtain ⟨t184, A20, H⟩ := H
  replace H : ((slices_Clone_string_string.f l0_3).bind fun t187 => (tree_own.l0 k ([] : List (S26)) l0_4 (l0_4.length : Int) 0 a0_0 a0_1 t184 t187 l0_4)) = some (r1, r2, r3, r4, r5) := H
  have A2 := Aside0.mk A20
  clear A20
  replace H := Option.bind_eq_some_iff.mp H
  obtain ⟨t187, A30, H⟩ := H
  replace H : (tree_own.l0 k ([] : List (S26)) l0_4 (l0_4.length : Int) 0 a0_0 a0_1 t184 t187 l0_4) = some (r1, r2, r3, r4, r5) := H
  have A3 := Aside0.mk A30
  clear A30
  have H' := Aside0.mk H
  clear H
  go_enter Tryd.func34, Tryd.ntmps34
  go_wp2_with (first | ((with_reducible refine gate_dst (N := 1) rfl ?_); refine box_event ?hg (N := 1) ?hd (cs := #[.int .i64 a0_0, .bool a0_1, .slice A0_2 l0_2.length c0_2, .slice A0_3 l0_3.length c0_3, .slice A0_4 l0_4.length c0_4]) (t := 26) ?hr ?_; (case hd => rfl); (case hg => rfl); (case hr => first | (go_simp; done) | (go_simp; rfl)); intro gb182 hg w4 hbox hb; have n0_ := Aside0.mk (below_step (by repeat (first | (with_reducible first | exact HB.out | apply below_alloc | apply pw_below_drewN | apply below_drew1) | exact HB.out)) hb); have n1_ := Aside0.mk (hbox); have n2_ := Aside0.mk ((by rw [hg]; exact (below_size (by repeat (first | (with_reducible first | exact HB.out | apply below_alloc | apply pw_below_drewN | apply below_drew1) | exact HB.out))) : w.heap.size ≤ gb182)); have n3_ := Aside0.mk ((by rw [hg]; exact (below_size (by repeat (first | (with_reducible first | exact HB.out | apply below_alloc | apply pw_below_drewN | apply below_drew1) | exact HB.out))) : w.heap.size ≤ gb182)); clear HB; have HB := n0_; have BK182 := n1_; have GW182 := n2_; have GE182 := n3_; clear n0_ n1_ n2_ n3_; clear hb hbox hg) | ((with_reducible refine gate_dst (N := 2) rfl ?_); refine box_event ?hg (N := 2) ?hd (cs := #[.int .i64 0, .bool false, .slice none 0 0, .slice none 0 0, .slice none 0 0]) (t := 26) ?hr ?_; (case hd => rfl); (case hg => rfl); (case hr => first | (go_simp; done) | (go_simp; rfl)); intro gb183 hg w5 hbox hb; have n0_ := Aside0.mk (blk_below (g := gb182) (o := .cells #[.int .i64 a0_0, .bool a0_1, .slice A0_2 l0_2.length c0_2, .slice A0_3 l0_3.length c0_3, .slice A0_4 l0_4.length c0_4] 26 (0, 0)) (by (with_reducible repeat (first | refine blk_drewN ?_ _ | refine blk_drew ?_ | refine blk_alloc ?_ _)); exact BK182.out) hb); have n1_ := Aside0.mk (below_step (by repeat (first | (with_reducible first | exact HB.out | apply below_alloc | apply pw_below_drewN | apply below_drew1 | refine below_set ?_ GE182.out) | exact HB.out)) hb); have n2_ := Aside0.mk (hbox); have n3_ := Aside0.mk ((by rw [hg]; exact (below_size (by repeat (first | (with_reducible first | exact HB.out | apply below_alloc | apply pw_below_drewN | apply below_drew1 | refine below_set ?_ GE182.out) | exact HB.out))) : w.heap.size ≤ gb183)); have n4_ := Aside0.mk ((by rw [hg]; exact (below_size (by repeat (first | (with_reducible first | exact HB.out | apply below_alloc | apply pw_below_drewN | apply below_drew1 | refine below_set ?_ GE182.out) | exact HB.out))) : w.heap.size ≤ gb183)); have n5_ := Aside0.mk ((by rw [hg]; exact Nat.ne_of_lt (blk_lt (g := gb182) (o := .cells #[.int .i64 a0_0, .bool a0_1, .slice A0_2 l0_2.length c0_2, .slice A0_3 l0_3.length c0_3, .slice A0_4 l0_4.length c0_4] 26 (0, 0)) (by (with_reducible repeat (first | refine blk_drewN ?_ _ | refine blk_drew ?_ | refine blk_alloc ?_ _)); exact BK182.out)) : gb182 ≠ gb183)); have n6_ := Aside0.mk ((by rw [hg]; exact Nat.ne_of_gt (blk_lt (g := gb182) (o := .cells #[.int .i64 a0_0, .bool a0_1, .slice A0_2 l0_2.length c0_2, .slice A0_3 l0_3.length c0_3, .slice A0_4 l0_4.length c0_4] 26 (0, 0)) (by (with_reducible repeat (first | refine blk_drewN ?_ _ | refine blk_drew ?_ | refine blk_alloc ?_ _)); exact BK182.out)) : gb183 ≠ gb182)); clear BK182; clear HB; have BK182 := n0_; have HB := n1_; have BK183 := n2_; have GW183 := n3_; have GE183 := n4_; have NB182_183 := n5_; have NB183_182 := n6_; clear n0_ n1_ n2_ n3_ n4_ n5_ n6_; clear hb hbox hg; have hnb6 := NB182_183.out; have hnc6 := NB183_182.out; have hcz7_0 : w5.cell? ⟨gb182, 0, none⟩ = some (.int .i64 a0_0) := (blk_cell BK182.out 0).trans rfl; have hcz7_1 : w5.cell? ⟨gb182, 1, none⟩ = some (.bool a0_1) := (blk_cell BK182.out 1).trans rfl; have hcz7_2 : w5.cell? ⟨gb182, 2, none⟩ = some (.slice A0_2 l0_2.length c0_2) := (blk_cell BK182.out 2).trans rfl; have hcz7_3 : w5.cell? ⟨gb182, 3, none⟩ = some (.slice A0_3 l0_3.length c0_3) := (blk_cell BK182.out 3).trans rfl; have hcz7_4 : w5.cell? ⟨gb182, 4, none⟩ = some (.slice A0_4 l0_4.length c0_4) := (blk_cell BK182.out 4).trans rfl; have hfz7_0 := blk_frozen BK182.out 0; have hfz7_1 := blk_frozen BK182.out 1; have hfz7_2 := blk_frozen BK182.out 2; have hfz7_3 := blk_frozen BK182.out 3; have hfz7_4 := blk_frozen BK182.out 4) | ((with_reducible refine gate_callee (f := 53) rfl ?_); refine goesL_ (some 8) rfl rfl Tryd.func53 (by kernel_rfl) rfl #[.slice A0_2 l0_2.length c0_2] rfl (by (try simp only [List.map_toArray, List.map_cons, List.map_nil]); first | done | rfl | (simp only [List.length_drop, List.length_take]; rfl)) ?_; (with_reducible refine (bytes_Clone.calls _ _ l0_2 t184 _ ?side1 ?side2 A2.out).mono ?_); (case side1 => repeat (first | exact (Kd.C_below HR0_2.out HB.out) | (with_reducible refine Kd.C_alloc ?_ _) | (with_reducible refine Kd.C_drewN ?_ _) | (with_reducible refine Kd.C_drew ?_))); (case side2 => exact HC0_2.out); rintro e w8 ⟨v185, rfl, ho0, hb⟩; refine ⟨_, rfl, ?_⟩; have n0_ := Aside0.mk (Kd.R_lower ho0 (below_size (by repeat (first | (with_reducible first | exact HB.out | apply below_alloc | apply pw_below_drewN | apply below_drew1 | refine below_set ?_ GE182.out | refine below_set ?_ GE183.out) | exact HB.out)))); have n1_ := Aside0.mk (blk_below (g := gb182) (o := .cells #[.int .i64 a0_0, .bool a0_1, .slice A0_2 l0_2.length c0_2, .slice A0_3 l0_3.length c0_3, .slice A0_4 l0_4.length c0_4] 26 (0, 0)) (by (with_reducible repeat (first | refine blk_drewN ?_ _ | refine blk_drew ?_ | refine blk_alloc ?_ _)); exact BK182.out) hb); have n2_ := Aside0.mk (blk_below (g := gb183) (o := .cells #[.int .i64 0, .bool false, .slice none 0 0, .slice none 0 0, .slice none 0 0] 26 (0, 0)) (by (with_reducible repeat (first | refine blk_drewN ?_ _ | refine blk_drew ?_ | refine blk_alloc ?_ _)); exact BK183.out) hb); have n3_ := Aside0.mk (below_step (by repeat (first | (with_reducible first | exact HB.out | apply below_alloc | apply pw_below_drewN | apply below_drew1 | refine below_set ?_ GE182.out | refine below_set ?_ GE183.out) | exact HB.out)) hb); clear BK182; clear BK183; clear HB; have HO186 := n0_; have BK182 := n1_; have BK183 := n2_; have HB := n3_; clear n0_ n1_ n2_ n3_; (try clear hb); (try clear hb2); (try clear hk); (try clear hi); (try clear ho0); obtain ⟨Ao9, co9, eo9⟩ := Kd.R_slice HO186.out; subst eo9; have hcz10_0 : w8.cell? ⟨gb182, 0, none⟩ = some (.int .i64 a0_0) := (blk_cell BK182.out 0).trans rfl; have hcz10_1 : w8.cell? ⟨gb182, 1, none⟩ = some (.bool a0_1) := (blk_cell BK182.out 1).trans rfl; have hcz10_2 : w8.cell? ⟨gb182, 2, none⟩ = some (.slice A0_2 l0_2.length c0_2) := (blk_cell BK182.out 2).trans rfl; have hcz10_3 : w8.cell? ⟨gb182, 3, none⟩ = some (.slice A0_3 l0_3.length c0_3) := (blk_cell BK182.out 3).trans rfl; have hcz10_4 : w8.cell? ⟨gb182, 4, none⟩ = some (.slice A0_4 l0_4.length c0_4) := (blk_cell BK182.out 4).trans rfl; have hfz10_0 := blk_frozen BK182.out 0; have hfz10_1 := blk_frozen BK182.out 1; have hfz10_2 := blk_frozen BK182.out 2; have hfz10_3 := blk_frozen BK182.out 3; have hfz10_4 := blk_frozen BK182.out 4) | ((with_reducible refine gate_callee (f := 49) rfl ?_); refine goesL_ (some 12) rfl rfl Tryd.func49 (by kernel_rfl) rfl #[.slice A0_3 l0_3.length c0_3] rfl (by (try simp only [List.map_toArray, List.map_cons, List.map_nil]); first | done | rfl | (simp only [List.length_drop, List.length_take]; rfl)) ?_; (with_reducible refine (slices_Clone_string_string.calls _ _ l0_3 t187 _ ?side1 ?side2 A3.out).mono ?_); (case side1 => exact Kd.C_below HR0_3.out (by repeat (first | (with_reducible first | exact HB.out | apply below_alloc | apply pw_below_drewN | apply below_drew1 | refine below_set ?_ GE182.out | refine below_set ?_ GE183.out) | exact HB.out))); (case side2 => exact HC0_3.out); rintro e w11 ⟨v188, rfl, ho0, hb⟩; refine ⟨_, rfl, ?_⟩; have n0_ := Aside0.mk (Kd.R_below (by (with_reducible repeat (first | apply Kd.R_alloc | apply Kd.R_drewN | apply Kd.R_drew)); exact (Kd.R_mono (Kd.R_far (p := ⟨gb182, 2, none⟩) (Kd.R_types HO186.out BK182.out (by decide)) (fun _ hk => hk.2) (.slice Ao9 t184.length co9)) (fun _ h_ => h_.1))) hb); have n1_ := Aside0.mk (Kd.R_lower ho0 (below_size (by repeat (first | (with_reducible first | exact HB.out | apply below_alloc | apply pw_below_drewN | apply below_drew1 | refine below_set ?_ GE182.out | refine below_set ?_ GE183.out) | exact HB.out)))); have n2_ := Aside0.mk (blk_below (g := gb182) (o := .cells #[.int .i64 a0_0, .bool a0_1, .slice Ao9 t184.length co9, .slice A0_3 l0_3.length c0_3, .slice A0_4 l0_4.length c0_4] 26 (0, 0)) (by (with_reducible repeat (first | refine blk_drewN ?_ _ | refine blk_drew ?_ | refine blk_alloc ?_ _)); refine blk_put (cs := #[.int .i64 a0_0, .bool a0_1, .slice A0_2 l0_2.length c0_2, .slice A0_3 l0_3.length c0_3, .slice A0_4 l0_4.length c0_4]) ?_ 2 _ rfl; (with_reducible repeat (first | refine blk_drewN ?_ _ | refine blk_drew ?_ | refine blk_alloc ?_ _)); exact BK182.out) hb); have n3_ := Aside0.mk (blk_below (g := gb183) (o := .cells #[.int .i64 0, .bool false, .slice none 0 0, .slice none 0 0, .slice none 0 0] 26 (0, 0)) (by (with_reducible repeat (first | refine blk_drewN ?_ _ | refine blk_drew ?_ | refine blk_alloc ?_ _)); refine blk_far ?_ NB183_182.out _; (with_reducible repeat (first | refine blk_drewN ?_ _ | refine blk_drew ?_ | refine blk_alloc ?_ _)); exact BK183.out) hb); have n4_ := Aside0.mk (below_step (by repeat (first | (with_reducible first | exact HB.out | apply below_alloc | apply pw_below_drewN | apply below_drew1 | refine below_set ?_ GE182.out | refine below_set ?_ GE183.out) | exact HB.out)) hb); clear HO186; clear BK182; clear BK183; clear HB; have HO186 := n0_; have HO189 := n1_; have BK182 := n2_; have BK183 := n3_; have HB := n4_; clear n0_ n1_ n2_ n3_ n4_; (try clear hb); (try clear hb2); (try clear hk); (try clear hi); (try clear ho0); obtain ⟨Ao12, co12, eo12⟩ := Kd.R_slice HO189.out; subst eo12; have hcz13_0 : w11.cell? ⟨gb182, 0, none⟩ = some (.int .i64 a0_0) := (blk_cell BK182.out 0).trans rfl; have hcz13_1 : w11.cell? ⟨gb182, 1, none⟩ = some (.bool a0_1) := (blk_cell BK182.out 1).trans rfl; have hcz13_2 : w11.cell? ⟨gb182, 2, none⟩ = some (.slice Ao9 t184.length co9) := (blk_cell BK182.out 2).trans rfl; have hcz13_3 : w11.cell? ⟨gb182, 3, none⟩ = some (.slice A0_3 l0_3.length c0_3) := (blk_cell BK182.out 3).trans rfl; have hcz13_4 : w11.cell? ⟨gb182, 4, none⟩ = some (.slice A0_4 l0_4.length c0_4) := (blk_cell BK182.out 4).trans rfl; have hfz13_0 := blk_frozen BK182.out 0; have hfz13_1 := blk_frozen BK182.out 1; have hfz13_2 := blk_frozen BK182.out 2; have hfz13_3 := blk_frozen BK182.out 3; have hfz13_4 := blk_frozen BK182.out 4))
  go_loopg [3, 17] k (fun kq v3 v17 w' => ∃ (x3_1 : List (S26)) (x17_1 : Int), v17 = .int .i64 x17_1 ∧ Aside0 (tree_own.l0 kq x3_1 l0_4 (l0_4.length : Int) x17_1 a0_0 a0_1 t184 t187 l0_4 = some (r1, r2, r3, r4, r5)) ∧ Aside0 (kq ≤ k) ∧ Aside0 (Kd.R k26 26 w' w.heap.size (fun k_ => some k_ ≠ ((.slice Ao9 t184.length co9) : Value).ownBlock ∧ some k_ ≠ ((.slice Ao12 t187.length co12) : Value).ownBlock ∧ k_ ≠ gb182 ∧ k_ ≠ gb183) v3 x3_1) ∧ Aside0 (Kd.R (Kd.int .u8) 5 w' w.heap.size (fun _ => True) (.slice Ao9 t184.length co9) t184) ∧ Aside0 (Kd.R Kd.string 9 w' w.heap.size (fun _ => True) (.slice Ao12 t187.length co12) t187) ∧ Aside0 (w'.heap[gb182]? = some (.cells #[.int .i64 a0_0, .bool a0_1, (.slice Ao9 t184.length co9), (.slice Ao12 t187.length co12), (.slice A0_4 l0_4.length c0_4)] 26 (0, 0))) ∧ Aside0 (w'.heap[gb183]? = some (.cells #[.int .i64 0, .bool false, (.slice none 0 0), (.slice none 0 0), (.slice none 0 0)] 26 (0, 0))) ∧ Aside0 (Below w.heap.size w w'))
  case atStart => exact ⟨(([] : List (S26))), (0), (by first | rfl | (simp; done) | (simp [*]; done)), H', ⟨Nat.le_refl _⟩, ⟨by first | exact Kd.R_nil _ _ _ _ _ | exact Kd.N_nil _ _ _ _ _ | exact Kd.V_nil _ _ _ _ _ | exact Kd.Q_nil _ _ _ _ _ | exact Kd.S_nil _ _ _ _ _⟩, ⟨by (with_reducible repeat (first | apply Kd.R_alloc | apply Kd.R_drewN | apply Kd.R_drew)); exact Kd.R_mono (Kd.R_far (p := ⟨gb182, 3, none⟩) (Kd.R_types HO186.out BK182.out (by decide)) (fun _ hk => hk.2) (.slice Ao12 t187.length co12)) (fun _ hk => trivial)⟩, ⟨by (with_reducible repeat (first | apply Kd.R_alloc | apply Kd.R_drewN | apply Kd.R_drew)); exact Kd.R_mono (Kd.R_far (p := ⟨gb182, 3, none⟩) (Kd.R_types HO189.out BK182.out (by decide)) (fun _ hk => hk.2) (.slice Ao12 t187.length co12)) (fun _ hk => trivial)⟩, ⟨by (with_reducible repeat (first | refine blk_drewN ?_ _ | refine blk_drew ?_ | refine blk_alloc ?_ _)); refine blk_put (cs := #[.int .i64 a0_0, .bool a0_1, .slice Ao9 t184.length co9, .slice A0_3 l0_3.length c0_3, .slice A0_4 l0_4.length c0_4]) ?_ 3 _ rfl; (with_reducible repeat (first | refine blk_drewN ?_ _ | refine blk_drew ?_ | refine blk_alloc ?_ _)); exact BK182.out⟩, ⟨by (with_reducible repeat (first | refine blk_drewN ?_ _ | refine blk_drew ?_ | refine blk_alloc ?_ _)); refine blk_far ?_ NB183_182.out _; (with_reducible repeat (first | refine blk_drewN ?_ _ | refine blk_drew ?_ | refine blk_alloc ?_ _)); exact BK183.out⟩, ⟨by repeat (first | (with_reducible first | exact HB.out | apply below_alloc | apply pw_below_drewN | apply below_drew1 | refine below_set ?_ GE182.out | refine below_set ?_ GE183.out) | exact HB.out)⟩⟩
  case round =>
    clear H'
    try clear p2
    try clear c3
    try clear c4
    try clear c5
    try clear c6
    try clear hcz10_0
    try clear hcz10_1
    try clear hcz10_2
    try clear hcz10_3
    try clear hcz10_4
    try clear hcz13_0
    try clear hcz13_1
    try clear hcz13_2
    try clear hcz13_3
    try clear hcz13_4
    try clear hcz7_0
    try clear hcz7_1
    try clear hcz7_2
    try clear hcz7_3
    try clear hcz7_4
    try clear hfz10_0
    try clear hfz10_1
    try clear hfz10_2
    try clear hfz10_3
    try clear hfz10_4
    try clear hfz13_0
    try clear hfz13_1
    try clear hfz13_2
    try clear hfz13_3
    try clear hfz13_4
    try clear hfz7_0
    try clear hfz7_1
    try clear hfz7_2
    try clear hfz7_3
    try clear hfz7_4
    obtain ⟨x3_1, x17_1, rfl, HA, HK1, HO_3, HO_183002, HO_183003, BK182, BK183, HB⟩ := hrel
    cases gk with
    | zero => exact absurd HA.out (by simp [tree_own.l0])
    | succ k1 =>
      have H := HA.out
      clear HA
      simp only [tree_own.l0] at H
      by_cases c14 : x17_1 < (l0_4.length : Int)
      · rw [if_pos c14] at H
        have c14b0 : decide (x17_1 < (l0_4.length : Int)) = true := decide_eq_true c14
        clear c14
        by_cases c15 : 0 ≤ x17_1
        · rw [if_pos c15] at H
          have c15b0 : decide (0 ≤ x17_1) = true := decide_eq_true c15
          clear c15
          by_cases c16 : x17_1 < (l0_4.length : Int)
          · rw [if_pos c16] at H
            have c16b0 : decide (x17_1 < (l0_4.length : Int)) = true := decide_eq_true c16
            clear c16
            replace H := Option.bind_eq_some_iff.mp H
            obtain ⟨⟨t192, t193, t194, t197, t200⟩, A170, H⟩ := H
            replace H : (if x3_1.length < 1599289640401 then (tree_own.l0 k1 (x3_1 ++ [(⟨t192, t193, t194, t197, t200⟩ : S26)]) l0_4 (l0_4.length : Int) (wrap64 (x17_1 + 1)) a0_0 a0_1 t184 t187 l0_4) else (none)) = some (r1, r2, r3, r4, r5) := H
            have A17 := Aside0.mk A170
            clear A170
            by_cases c18 : x3_1.length < 1599289640401
            · rw [if_pos c18] at H
              have LMc18 := Aside0.mk c18
              clear c18
              obtain ⟨y203, hy203⟩ : ∃ y_ : List (S26), y_ = (x3_1 ++ [(⟨t192, t193, t194, t197, t200⟩ : S26)]) := ⟨_, rfl⟩
              replace H : (tree_own.l0 k1 y203 l0_4 (l0_4.length : Int) (wrap64 (x17_1 + 1)) a0_0 a0_1 t184 t187 l0_4) = some (r1, r2, r3, r4, r5) := by first | (rw [hy203]; with_reducible exact H) | (have H2_ := (Option.bind_some _ _).symm.trans H; rw [hy203]; with_reducible exact H2_) | (have H2_ := (Option.bind_some _ _).symm.trans H; with_reducible exact H2_) | with_reducible exact H | (rw [hy203]; exact H) | exact H
              have Ny203 := Aside0.mk hy203
              clear hy203
              have H' := Aside0.mk H
              clear H
              have p190 : 0 ≤ (x17_1 : Int) := of_decide_eq_true (by first | (with_reducible assumption) | assumption)
              have q190 : x17_1 < (l0_4.length : Int) := of_decide_eq_true (by first | (with_reducible assumption) | assumption)
              obtain ⟨ad190, A190_2, c190_2, A190_3, c190_3, A190_4, c190_4, e190, hx190_0, hx190_1, hx190_2, hx190_3, hx190_4, hl190_2, hi190_2, hl190_3, hi190_3, hl190_4, hi190_4⟩ := at_T26 HR0_4.out x17_1 p190 q190
              cases e190
              replace hx190_0 := (HB.out.cell (World.block_lt_of_cell? w _ hx190_0)).trans hx190_0
              replace hx190_1 := (HB.out.cell (World.block_lt_of_cell? w _ hx190_1)).trans hx190_1
              replace hx190_2 := (HB.out.cell (World.block_lt_of_cell? w _ hx190_2)).trans hx190_2
              replace hx190_3 := (HB.out.cell (World.block_lt_of_cell? w _ hx190_3)).trans hx190_3
              replace hx190_4 := (HB.out.cell (World.block_lt_of_cell? w _ hx190_4)).trans hx190_4
              have HR190_2 := Aside0.mk hi190_2
              have HC190_2 := Aside0.mk hl190_2
              clear hi190_2 hl190_2
              have HR190_3 := Aside0.mk hi190_3
              have HC190_3 := Aside0.mk hl190_3
              clear hi190_3 hl190_3
              have HR190_4 := Aside0.mk hi190_4
              have HC190_4 := Aside0.mk hl190_4
              clear hi190_4 hl190_4
              replace p190 := eq_true p190
              replace q190 := eq_true q190
              go_wp2_with (first | ((with_reducible refine gate_dst (N := 5) rfl ?_); refine box_event ?hg (N := 5) ?hd (cs := #[.int .i64 0, .bool false, .slice none 0 0, .slice none 0 0, .slice none 0 0]) (t := 26) ?hr ?_; (case hd => rfl); (case hg => rfl); (case hr => first | (go_simp; done) | (go_simp; rfl)); intro gb191 hg w19 hbox hb; have n0_ := Aside0.mk (Kd.R_below (Kd.R_elderB (by (with_reducible repeat (first | apply Kd.R_alloc | apply Kd.R_drewN | apply Kd.R_drew)); exact HO_3.out) gb191 (Nat.le_of_eq hg.symm)) hb); have n1_ := Aside0.mk (Kd.R_below (by (with_reducible repeat (first | apply Kd.R_alloc | apply Kd.R_drewN | apply Kd.R_drew)); exact HO_183002.out) hb); have n2_ := Aside0.mk (Kd.R_below (by (with_reducible repeat (first | apply Kd.R_alloc | apply Kd.R_drewN | apply Kd.R_drew)); exact HO_183003.out) hb); have n3_ := Aside0.mk (blk_below (g := gb182) (o := .cells #[.int .i64 a0_0, .bool a0_1, .slice Ao9 t184.length co9, .slice Ao12 t187.length co12, .slice (some ad190) l0_4.length c0_4] 26 (0, 0)) (by (with_reducible repeat (first | refine blk_drewN ?_ _ | refine blk_drew ?_ | refine blk_alloc ?_ _)); exact BK182.out) hb); have n4_ := Aside0.mk (blk_below (g := gb183) (o := .cells #[.int .i64 0, .bool false, .slice none 0 0, .slice none 0 0, .slice none 0 0] 26 (0, 0)) (by (with_reducible repeat (first | refine blk_drewN ?_ _ | refine blk_drew ?_ | refine blk_alloc ?_ _)); exact BK183.out) hb); have n5_ := Aside0.mk (below_step (by repeat (first | (with_reducible first | exact HB.out | apply below_alloc | apply pw_below_drewN | apply below_drew1 | refine below_set ?_ GE182.out | refine below_set ?_ GE183.out) | exact HB.out)) hb); have n6_ := Aside0.mk (hbox); have n7_ := Aside0.mk ((by rw [hg]; exact (below_size (by repeat (first | (with_reducible first | exact HB.out | apply below_alloc | apply pw_below_drewN | apply below_drew1 | refine below_set ?_ GE182.out | refine below_set ?_ GE183.out) | exact HB.out))) : w.heap.size ≤ gb191)); have n8_ := Aside0.mk ((by rw [hg]; exact (below_size (by repeat (first | (with_reducible first | exact HB.out | apply below_alloc | apply pw_below_drewN | apply below_drew1 | refine below_set ?_ GE182.out | refine below_set ?_ GE183.out) | exact HB.out))) : w.heap.size ≤ gb191)); have n9_ := Aside0.mk ((by rw [hg]; exact Nat.ne_of_lt (blk_lt (g := gb182) (o := .cells #[.int .i64 a0_0, .bool a0_1, .slice Ao9 t184.length co9, .slice Ao12 t187.length co12, .slice (some ad190) l0_4.length c0_4] 26 (0, 0)) (by (with_reducible repeat (first | refine blk_drewN ?_ _ | refine blk_drew ?_ | refine blk_alloc ?_ _)); exact BK182.out)) : gb182 ≠ gb191)); have n10_ := Aside0.mk ((by rw [hg]; exact Nat.ne_of_gt (blk_lt (g := gb182) (o := .cells #[.int .i64 a0_0, .bool a0_1, .slice Ao9 t184.length co9, .slice Ao12 t187.length co12, .slice (some ad190) l0_4.length c0_4] 26 (0, 0)) (by (with_reducible repeat (first | refine blk_drewN ?_ _ | refine blk_drew ?_ | refine blk_alloc ?_ _)); exact BK182.out)) : gb191 ≠ gb182)); have n11_ := Aside0.mk ((by rw [hg]; exact Nat.ne_of_lt (blk_lt (g := gb183) (o := .cells #[.int .i64 0, .bool false, .slice none 0 0, .slice none 0 0, .slice none 0 0] 26 (0, 0)) (by (with_reducible repeat (first | refine blk_drewN ?_ _ | refine blk_drew ?_ | refine blk_alloc ?_ _)); exact BK183.out)) : gb183 ≠ gb191)); have n12_ := Aside0.mk ((by rw [hg]; exact Nat.ne_of_gt (blk_lt (g := gb183) (o := .cells #[.int .i64 0, .bool false, .slice none 0 0, .slice none 0 0, .slice none 0 0] 26 (0, 0)) (by (with_reducible repeat (first | refine blk_drewN ?_ _ | refine blk_drew ?_ | refine blk_alloc ?_ _)); exact BK183.out)) : gb191 ≠ gb183)); clear HO_3; clear HO_183002; clear HO_183003; clear BK182; clear BK183; clear HB; have HO_3 := n0_; have HO_183002 := n1_; have HO_183003 := n2_; have BK182 := n3_; have BK183 := n4_; have HB := n5_; have BK191 := n6_; have GW191 := n7_; have GE191 := n8_; have NB182_191 := n9_; have NB191_182 := n10_; have NB183_191 := n11_; have NB191_183 := n12_; clear n0_ n1_ n2_ n3_ n4_ n5_ n6_ n7_ n8_ n9_ n10_ n11_ n12_; clear hb hbox hg; have hnb20 := NB191_182.out; have hnc20 := NB182_191.out; have hnb21 := NB191_183.out; have hnc21 := NB183_191.out; have hcz22_0 : w19.cell? ⟨gb191, 0, none⟩ = some (.int .i64 0) := (blk_cell BK191.out 0).trans rfl; have hcz22_1 : w19.cell? ⟨gb191, 1, none⟩ = some (.bool false) := (blk_cell BK191.out 1).trans rfl; have hcz22_2 : w19.cell? ⟨gb191, 2, none⟩ = some (.slice none 0 0) := (blk_cell BK191.out 2).trans rfl; have hcz22_3 : w19.cell? ⟨gb191, 3, none⟩ = some (.slice none 0 0) := (blk_cell BK191.out 3).trans rfl; have hcz22_4 : w19.cell? ⟨gb191, 4, none⟩ = some (.slice none 0 0) := (blk_cell BK191.out 4).trans rfl; have hfz22_0 := blk_frozen BK191.out 0; have hfz22_1 := blk_frozen BK191.out 1; have hfz22_2 := blk_frozen BK191.out 2; have hfz22_3 := blk_frozen BK191.out 3; have hfz22_4 := blk_frozen BK191.out 4) | ((with_reducible refine gate_callee (f := 34) rfl ?_); refine goesL_ (some 23) rfl rfl Tryd.func34 (by kernel_rfl) rfl #[.agg #[.int .i64 ((rd_T26 l0_4 x17_1).f0), .bool ((rd_T26 l0_4 x17_1).f1), .slice A190_2 ((rd_T26 l0_4 x17_1).f2).length c190_2, .slice A190_3 ((rd_T26 l0_4 x17_1).f3).length c190_3, .slice A190_4 ((rd_T26 l0_4 x17_1).f4).length c190_4]] rfl (by (try simp only [List.map_toArray, List.map_cons, List.map_nil]); first | done | rfl | (simp only [List.length_drop, List.length_take]; rfl)) ?_; (with_reducible refine (ih k1 (by have := HK1.out; omega) ((rd_T26 l0_4 x17_1).f0) ((rd_T26 l0_4 x17_1).f1) _ _ ((rd_T26 l0_4 x17_1).f2) _ _ ((rd_T26 l0_4 x17_1).f3) _ _ ((rd_T26 l0_4 x17_1).f4) t192 t193 t194 t197 t200 _ ?side1 ?side2 ?side3 ?side4 ?side5 ?side6 A17.out).mono ?_); (case side1 => exact Kd.C_below HR190_2.out (by repeat (first | (with_reducible first | exact HB.out | apply below_alloc | apply pw_below_drewN | apply below_drew1 | refine below_set ?_ GE182.out | refine below_set ?_ GE183.out | refine below_set ?_ GE191.out) | exact HB.out))); (case side2 => exact HC190_2.out); (case side3 => exact Kd.C_below HR190_3.out (by repeat (first | (with_reducible first | exact HB.out | apply below_alloc | apply pw_below_drewN | apply below_drew1 | refine below_set ?_ GE182.out | refine below_set ?_ GE183.out | refine below_set ?_ GE191.out) | exact HB.out))); (case side4 => exact HC190_3.out); (case side5 => exact Kd.C_below HR190_4.out (by repeat (first | (with_reducible first | exact HB.out | apply below_alloc | apply pw_below_drewN | apply below_drew1 | refine below_set ?_ GE182.out | refine below_set ?_ GE183.out | refine below_set ?_ GE191.out) | exact HB.out))); (case side6 => exact HC190_4.out); rintro e w23 ⟨v195, v198, v201, rfl, ho0, ho1, ho2, hb⟩; refine ⟨_, rfl, ?_⟩; have n0_ := Aside0.mk (Kd.R_mono (Kd.R_told (Kd.R_told (Kd.R_told (Kd.R_old (by (with_reducible repeat (first | apply Kd.R_alloc | apply Kd.R_drewN | apply Kd.R_drew)); exact (Kd.R_mono (Kd.R_far (p := ⟨gb191, 4, none⟩) (Kd.R_far (p := ⟨gb191, 3, none⟩) (Kd.R_far (p := ⟨gb191, 2, none⟩) (Kd.R_far (p := ⟨gb191, 1, none⟩) (Kd.R_far (p := ⟨gb191, 0, none⟩) (Kd.R_mono HO_3.out (fun k_ hk => (⟨hk, hk.2⟩ : _ ∧ k_ ≠ gb191))) (fun _ hk => hk.2) (.int .i64 ((rd_T26 l0_4 x17_1).f0))) (fun _ hk => hk.2) (.bool ((rd_T26 l0_4 x17_1).f1))) (fun _ hk => hk.2) (.slice A190_2 ((rd_T26 l0_4 x17_1).f2).length c190_2)) (fun _ hk => hk.2) (.slice A190_3 ((rd_T26 l0_4 x17_1).f3).length c190_3)) (fun _ hk => hk.2) (.slice A190_4 ((rd_T26 l0_4 x17_1).f4).length c190_4)) (fun _ h_ => h_.1))) hb) (Kd.R_base ho0)) (Kd.R_base ho1)) (Kd.R_base ho2)) (fun _ h_ => h_.1)); have n1_ := Aside0.mk (Kd.R_elder' (by (with_reducible repeat (first | apply Kd.R_alloc | apply Kd.R_drewN | apply Kd.R_drew)); exact (Kd.R_mono (Kd.R_far (p := ⟨gb191, 4, none⟩) (Kd.R_far (p := ⟨gb191, 3, none⟩) (Kd.R_far (p := ⟨gb191, 2, none⟩) (Kd.R_far (p := ⟨gb191, 1, none⟩) (Kd.R_far (p := ⟨gb191, 0, none⟩) (Kd.R_types HO_183002.out BK191.out (by decide)) (fun _ hk => hk.2) (.int .i64 ((rd_T26 l0_4 x17_1).f0))) (fun _ hk => hk.2) (.bool ((rd_T26 l0_4 x17_1).f1))) (fun _ hk => hk.2) (.slice A190_2 ((rd_T26 l0_4 x17_1).f2).length c190_2)) (fun _ hk => hk.2) (.slice A190_3 ((rd_T26 l0_4 x17_1).f3).length c190_3)) (fun _ hk => hk.2) (.slice A190_4 ((rd_T26 l0_4 x17_1).f4).length c190_4)) (fun _ h_ => h_.1))) (Kd.R_base ho0) hb); have n2_ := Aside0.mk (Kd.R_elder' (by (with_reducible repeat (first | apply Kd.R_alloc | apply Kd.R_drewN | apply Kd.R_drew)); exact (Kd.R_mono (Kd.R_far (p := ⟨gb191, 4, none⟩) (Kd.R_far (p := ⟨gb191, 3, none⟩) (Kd.R_far (p := ⟨gb191, 2, none⟩) (Kd.R_far (p := ⟨gb191, 1, none⟩) (Kd.R_far (p := ⟨gb191, 0, none⟩) (Kd.R_types HO_183003.out BK191.out (by decide)) (fun _ hk => hk.2) (.int .i64 ((rd_T26 l0_4 x17_1).f0))) (fun _ hk => hk.2) (.bool ((rd_T26 l0_4 x17_1).f1))) (fun _ hk => hk.2) (.slice A190_2 ((rd_T26 l0_4 x17_1).f2).length c190_2)) (fun _ hk => hk.2) (.slice A190_3 ((rd_T26 l0_4 x17_1).f3).length c190_3)) (fun _ hk => hk.2) (.slice A190_4 ((rd_T26 l0_4 x17_1).f4).length c190_4)) (fun _ h_ => h_.1))) (Kd.R_base ho1) hb); have n3_ := Aside0.mk (Kd.R_lower (Kd.R_new' ho0 (Kd.R_lt (by (with_reducible repeat (first | apply Kd.R_alloc | apply Kd.R_drewN | apply Kd.R_drew)); exact (Kd.R_mono (Kd.R_far (p := ⟨gb191, 4, none⟩) (Kd.R_far (p := ⟨gb191, 3, none⟩) (Kd.R_far (p := ⟨gb191, 2, none⟩) (Kd.R_far (p := ⟨gb191, 1, none⟩) (Kd.R_far (p := ⟨gb191, 0, none⟩) (Kd.R_types HO_183002.out BK191.out (by decide)) (fun _ hk => hk.2) (.int .i64 ((rd_T26 l0_4 x17_1).f0))) (fun _ hk => hk.2) (.bool ((rd_T26 l0_4 x17_1).f1))) (fun _ hk => hk.2) (.slice A190_2 ((rd_T26 l0_4 x17_1).f2).length c190_2)) (fun _ hk => hk.2) (.slice A190_3 ((rd_T26 l0_4 x17_1).f3).length c190_3)) (fun _ hk => hk.2) (.slice A190_4 ((rd_T26 l0_4 x17_1).f4).length c190_4)) (fun _ h_ => h_.1))))) (below_size (by repeat (first | (with_reducible first | exact HB.out | apply below_alloc | apply pw_below_drewN | apply below_drew1 | refine below_set ?_ GE182.out | refine below_set ?_ GE183.out | refine below_set ?_ GE191.out) | exact HB.out)))); have n4_ := Aside0.mk (Kd.R_lower (Kd.R_new' ho1 (Kd.R_lt (by (with_reducible repeat (first | apply Kd.R_alloc | apply Kd.R_drewN | apply Kd.R_drew)); exact (Kd.R_mono (Kd.R_far (p := ⟨gb191, 4, none⟩) (Kd.R_far (p := ⟨gb191, 3, none⟩) (Kd.R_far (p := ⟨gb191, 2, none⟩) (Kd.R_far (p := ⟨gb191, 1, none⟩) (Kd.R_far (p := ⟨gb191, 0, none⟩) (Kd.R_types HO_183003.out BK191.out (by decide)) (fun _ hk => hk.2) (.int .i64 ((rd_T26 l0_4 x17_1).f0))) (fun _ hk => hk.2) (.bool ((rd_T26 l0_4 x17_1).f1))) (fun _ hk => hk.2) (.slice A190_2 ((rd_T26 l0_4 x17_1).f2).length c190_2)) (fun _ hk => hk.2) (.slice A190_3 ((rd_T26 l0_4 x17_1).f3).length c190_3)) (fun _ hk => hk.2) (.slice A190_4 ((rd_T26 l0_4 x17_1).f4).length c190_4)) (fun _ h_ => h_.1))))) (below_size (by repeat (first | (with_reducible first | exact HB.out | apply below_alloc | apply pw_below_drewN | apply below_drew1 | refine below_set ?_ GE182.out | refine below_set ?_ GE183.out | refine below_set ?_ GE191.out) | exact HB.out)))); have n5_ := Aside0.mk (Kd.R_lower (Kd.R_newB (Kd.R_newB (Kd.R_newB (Kd.R_new' (Kd.R_new' (Kd.R_new' ho2 (Kd.R_lt (by (with_reducible repeat (first | apply Kd.R_alloc | apply Kd.R_drewN | apply Kd.R_drew)); exact (Kd.R_mono (Kd.R_far (p := ⟨gb191, 4, none⟩) (Kd.R_far (p := ⟨gb191, 3, none⟩) (Kd.R_far (p := ⟨gb191, 2, none⟩) (Kd.R_far (p := ⟨gb191, 1, none⟩) (Kd.R_far (p := ⟨gb191, 0, none⟩) (Kd.R_mono HO_3.out (fun k_ hk => (⟨hk, hk.2⟩ : _ ∧ k_ ≠ gb191))) (fun _ hk => hk.2) (.int .i64 ((rd_T26 l0_4 x17_1).f0))) (fun _ hk => hk.2) (.bool ((rd_T26 l0_4 x17_1).f1))) (fun _ hk => hk.2) (.slice A190_2 ((rd_T26 l0_4 x17_1).f2).length c190_2)) (fun _ hk => hk.2) (.slice A190_3 ((rd_T26 l0_4 x17_1).f3).length c190_3)) (fun _ hk => hk.2) (.slice A190_4 ((rd_T26 l0_4 x17_1).f4).length c190_4)) (fun _ h_ => h_.1))))) (Kd.R_lt (by (with_reducible repeat (first | apply Kd.R_alloc | apply Kd.R_drewN | apply Kd.R_drew)); exact (Kd.R_mono (Kd.R_far (p := ⟨gb191, 4, none⟩) (Kd.R_far (p := ⟨gb191, 3, none⟩) (Kd.R_far (p := ⟨gb191, 2, none⟩) (Kd.R_far (p := ⟨gb191, 1, none⟩) (Kd.R_far (p := ⟨gb191, 0, none⟩) (Kd.R_types HO_183002.out BK191.out (by decide)) (fun _ hk => hk.2) (.int .i64 ((rd_T26 l0_4 x17_1).f0))) (fun _ hk => hk.2) (.bool ((rd_T26 l0_4 x17_1).f1))) (fun _ hk => hk.2) (.slice A190_2 ((rd_T26 l0_4 x17_1).f2).length c190_2)) (fun _ hk => hk.2) (.slice A190_3 ((rd_T26 l0_4 x17_1).f3).length c190_3)) (fun _ hk => hk.2) (.slice A190_4 ((rd_T26 l0_4 x17_1).f4).length c190_4)) (fun _ h_ => h_.1))))) (Kd.R_lt (by (with_reducible repeat (first | apply Kd.R_alloc | apply Kd.R_drewN | apply Kd.R_drew)); exact (Kd.R_mono (Kd.R_far (p := ⟨gb191, 4, none⟩) (Kd.R_far (p := ⟨gb191, 3, none⟩) (Kd.R_far (p := ⟨gb191, 2, none⟩) (Kd.R_far (p := ⟨gb191, 1, none⟩) (Kd.R_far (p := ⟨gb191, 0, none⟩) (Kd.R_types HO_183003.out BK191.out (by decide)) (fun _ hk => hk.2) (.int .i64 ((rd_T26 l0_4 x17_1).f0))) (fun _ hk => hk.2) (.bool ((rd_T26 l0_4 x17_1).f1))) (fun _ hk => hk.2) (.slice A190_2 ((rd_T26 l0_4 x17_1).f2).length c190_2)) (fun _ hk => hk.2) (.slice A190_3 ((rd_T26 l0_4 x17_1).f3).length c190_3)) (fun _ hk => hk.2) (.slice A190_4 ((rd_T26 l0_4 x17_1).f4).length c190_4)) (fun _ h_ => h_.1))))) (g := gb182) (o := .cells #[.int .i64 a0_0, .bool a0_1, .slice Ao9 t184.length co9, .slice Ao12 t187.length co12, .slice (some ad190) l0_4.length c0_4] 26 (0, 0)) (by (with_reducible repeat (first | refine blk_drewN ?_ _ | refine blk_drew ?_ | refine blk_alloc ?_ _)); refine blk_far ?_ NB182_191.out _; (with_reducible repeat (first | refine blk_drewN ?_ _ | refine blk_drew ?_ | refine blk_alloc ?_ _)); refine blk_far ?_ NB182_191.out _; (with_reducible repeat (first | refine blk_drewN ?_ _ | refine blk_drew ?_ | refine blk_alloc ?_ _)); refine blk_far ?_ NB182_191.out _; (with_reducible repeat (first | refine blk_drewN ?_ _ | refine blk_drew ?_ | refine blk_alloc ?_ _)); refine blk_far ?_ NB182_191.out _; (with_reducible repeat (first | refine blk_drewN ?_ _ | refine blk_drew ?_ | refine blk_alloc ?_ _)); refine blk_far ?_ NB182_191.out _; (with_reducible repeat (first | refine blk_drewN ?_ _ | refine blk_drew ?_ | refine blk_alloc ?_ _)); exact BK182.out)) (g := gb183) (o := .cells #[.int .i64 0, .bool false, .slice none 0 0, .slice none 0 0, .slice none 0 0] 26 (0, 0)) (by (with_reducible repeat (first | refine blk_drewN ?_ _ | refine blk_drew ?_ | refine blk_alloc ?_ _)); refine blk_far ?_ NB183_191.out _; (with_reducible repeat (first | refine blk_drewN ?_ _ | refine blk_drew ?_ | refine blk_alloc ?_ _)); refine blk_far ?_ NB183_191.out _; (with_reducible repeat (first | refine blk_drewN ?_ _ | refine blk_drew ?_ | refine blk_alloc ?_ _)); refine blk_far ?_ NB183_191.out _; (with_reducible repeat (first | refine blk_drewN ?_ _ | refine blk_drew ?_ | refine blk_alloc ?_ _)); refine blk_far ?_ NB183_191.out _; (with_reducible repeat (first | refine blk_drewN ?_ _ | refine blk_drew ?_ | refine blk_alloc ?_ _)); refine blk_far ?_ NB183_191.out _; (with_reducible repeat (first | refine blk_drewN ?_ _ | refine blk_drew ?_ | refine blk_alloc ?_ _)); exact BK183.out)) (g := gb191) (o := .cells #[.int .i64 ((rd_T26 l0_4 x17_1).f0), .bool ((rd_T26 l0_4 x17_1).f1), .slice A190_2 ((rd_T26 l0_4 x17_1).f2).length c190_2, .slice A190_3 ((rd_T26 l0_4 x17_1).f3).length c190_3, .slice A190_4 ((rd_T26 l0_4 x17_1).f4).length c190_4] 26 (0, 0)) (by (with_reducible repeat (first | refine blk_drewN ?_ _ | refine blk_drew ?_ | refine blk_alloc ?_ _)); refine blk_put (cs := #[.int .i64 ((rd_T26 l0_4 x17_1).f0), .bool ((rd_T26 l0_4 x17_1).f1), .slice A190_2 ((rd_T26 l0_4 x17_1).f2).length c190_2, .slice A190_3 ((rd_T26 l0_4 x17_1).f3).length c190_3, .slice none 0 0]) ?_ 4 _ rfl; (with_reducible repeat (first | refine blk_drewN ?_ _ | refine blk_drew ?_ | refine blk_alloc ?_ _)); refine blk_put (cs := #[.int .i64 ((rd_T26 l0_4 x17_1).f0), .bool ((rd_T26 l0_4 x17_1).f1), .slice A190_2 ((rd_T26 l0_4 x17_1).f2).length c190_2, .slice none 0 0, .slice none 0 0]) ?_ 3 _ rfl; (with_reducible repeat (first | refine blk_drewN ?_ _ | refine blk_drew ?_ | refine blk_alloc ?_ _)); refine blk_put (cs := #[.int .i64 ((rd_T26 l0_4 x17_1).f0), .bool ((rd_T26 l0_4 x17_1).f1), .slice none 0 0, .slice none 0 0, .slice none 0 0]) ?_ 2 _ rfl; (with_reducible repeat (first | refine blk_drewN ?_ _ | refine blk_drew ?_ | refine blk_alloc ?_ _)); refine blk_put (cs := #[.int .i64 ((rd_T26 l0_4 x17_1).f0), .bool false, .slice none 0 0, .slice none 0 0, .slice none 0 0]) ?_ 1 _ rfl; (with_reducible repeat (first | refine blk_drewN ?_ _ | refine blk_drew ?_ | refine blk_alloc ?_ _)); refine blk_put (cs := #[.int .i64 0, .bool false, .slice none 0 0, .slice none 0 0, .slice none 0 0]) ?_ 0 _ rfl; (with_reducible repeat (first | refine blk_drewN ?_ _ | refine blk_drew ?_ | refine blk_alloc ?_ _)); exact BK191.out)) (below_size (by repeat (first | (with_reducible first | exact HB.out | apply below_alloc | apply pw_below_drewN | apply below_drew1 | refine below_set ?_ GE182.out | refine below_set ?_ GE183.out | refine below_set ?_ GE191.out) | exact HB.out)))); have n6_ := Aside0.mk (blk_below (g := gb182) (o := .cells #[.int .i64 a0_0, .bool a0_1, .slice Ao9 t184.length co9, .slice Ao12 t187.length co12, .slice (some ad190) l0_4.length c0_4] 26 (0, 0)) (by (with_reducible repeat (first | refine blk_drewN ?_ _ | refine blk_drew ?_ | refine blk_alloc ?_ _)); refine blk_far ?_ NB182_191.out _; (with_reducible repeat (first | refine blk_drewN ?_ _ | refine blk_drew ?_ | refine blk_alloc ?_ _)); refine blk_far ?_ NB182_191.out _; (with_reducible repeat (first | refine blk_drewN ?_ _ | refine blk_drew ?_ | refine blk_alloc ?_ _)); refine blk_far ?_ NB182_191.out _; (with_reducible repeat (first | refine blk_drewN ?_ _ | refine blk_drew ?_ | refine blk_alloc ?_ _)); refine blk_far ?_ NB182_191.out _; (with_reducible repeat (first | refine blk_drewN ?_ _ | refine blk_drew ?_ | refine blk_alloc ?_ _)); refine blk_far ?_ NB182_191.out _; (with_reducible repeat (first | refine blk_drewN ?_ _ | refine blk_drew ?_ | refine blk_alloc ?_ _)); exact BK182.out) hb); have n7_ := Aside0.mk (blk_below (g := gb183) (o := .cells #[.int .i64 0, .bool false, .slice none 0 0, .slice none 0 0, .slice none 0 0] 26 (0, 0)) (by (with_reducible repeat (first | refine blk_drewN ?_ _ | refine blk_drew ?_ | refine blk_alloc ?_ _)); refine blk_far ?_ NB183_191.out _; (with_reducible repeat (first | refine blk_drewN ?_ _ | refine blk_drew ?_ | refine blk_alloc ?_ _)); refine blk_far ?_ NB183_191.out _; (with_reducible repeat (first | refine blk_drewN ?_ _ | refine blk_drew ?_ | refine blk_alloc ?_ _)); refine blk_far ?_ NB183_191.out _; (with_reducible repeat (first | refine blk_drewN ?_ _ | refine blk_drew ?_ | refine blk_alloc ?_ _)); refine blk_far ?_ NB183_191.out _; (with_reducible repeat (first | refine blk_drewN ?_ _ | refine blk_drew ?_ | refine blk_alloc ?_ _)); refine blk_far ?_ NB183_191.out _; (with_reducible repeat (first | refine blk_drewN ?_ _ | refine blk_drew ?_ | refine blk_alloc ?_ _)); exact BK183.out) hb); have n8_ := Aside0.mk (blk_below (g := gb191) (o := .cells #[.int .i64 ((rd_T26 l0_4 x17_1).f0), .bool ((rd_T26 l0_4 x17_1).f1), .slice A190_2 ((rd_T26 l0_4 x17_1).f2).length c190_2, .slice A190_3 ((rd_T26 l0_4 x17_1).f3).length c190_3, .slice A190_4 ((rd_T26 l0_4 x17_1).f4).length c190_4] 26 (0, 0)) (by (with_reducible repeat (first | refine blk_drewN ?_ _ | refine blk_drew ?_ | refine blk_alloc ?_ _)); refine blk_put (cs := #[.int .i64 ((rd_T26 l0_4 x17_1).f0), .bool ((rd_T26 l0_4 x17_1).f1), .slice A190_2 ((rd_T26 l0_4 x17_1).f2).length c190_2, .slice A190_3 ((rd_T26 l0_4 x17_1).f3).length c190_3, .slice none 0 0]) ?_ 4 _ rfl; (with_reducible repeat (first | refine blk_drewN ?_ _ | refine blk_drew ?_ | refine blk_alloc ?_ _)); refine blk_put (cs := #[.int .i64 ((rd_T26 l0_4 x17_1).f0), .bool ((rd_T26 l0_4 x17_1).f1), .slice A190_2 ((rd_T26 l0_4 x17_1).f2).length c190_2, .slice none 0 0, .slice none 0 0]) ?_ 3 _ rfl; (with_reducible repeat (first | refine blk_drewN ?_ _ | refine blk_drew ?_ | refine blk_alloc ?_ _)); refine blk_put (cs := #[.int .i64 ((rd_T26 l0_4 x17_1).f0), .bool ((rd_T26 l0_4 x17_1).f1), .slice none 0 0, .slice none 0 0, .slice none 0 0]) ?_ 2 _ rfl; (with_reducible repeat (first | refine blk_drewN ?_ _ | refine blk_drew ?_ | refine blk_alloc ?_ _)); refine blk_put (cs := #[.int .i64 ((rd_T26 l0_4 x17_1).f0), .bool false, .slice none 0 0, .slice none 0 0, .slice none 0 0]) ?_ 1 _ rfl; (with_reducible repeat (first | refine blk_drewN ?_ _ | refine blk_drew ?_ | refine blk_alloc ?_ _)); refine blk_put (cs := #[.int .i64 0, .bool false, .slice none 0 0, .slice none 0 0, .slice none 0 0]) ?_ 0 _ rfl; (with_reducible repeat (first | refine blk_drewN ?_ _ | refine blk_drew ?_ | refine blk_alloc ?_ _)); exact BK191.out) hb); have n9_ := Aside0.mk (below_step (by repeat (first | (with_reducible first | exact HB.out | apply below_alloc | apply pw_below_drewN | apply below_drew1 | refine below_set ?_ GE182.out | refine below_set ?_ GE183.out | refine below_set ?_ GE191.out) | exact HB.out)) hb); clear HO_3; clear HO_183002; clear HO_183003; clear BK182; clear BK183; clear BK191; clear HB; have HO_3 := n0_; have HO_183002 := n1_; have HO_183003 := n2_; have HO196 := n3_; have HO199 := n4_; have HO202 := n5_; have BK182 := n6_; have BK183 := n7_; have BK191 := n8_; have HB := n9_; clear n0_ n1_ n2_ n3_ n4_ n5_ n6_ n7_ n8_ n9_; (try clear hb); (try clear hb2); (try clear hk); (try clear hi); (try clear ho0); (try clear ho1); (try clear ho2); obtain ⟨Ao25, co25, eo25⟩ := Kd.R_slice HO196.out; subst eo25; obtain ⟨Ao26, co26, eo26⟩ := Kd.R_slice HO199.out; subst eo26; obtain ⟨Ao27, co27, eo27⟩ := Kd.R_slice HO202.out; subst eo27) | ((with_reducible refine gate_builtin (b := .append) (xs := #[.tmp 21, .tmp 24]) rfl ?_); at_builtin; refine Kd.R_append k26 (w0 := w) w.heap.size rfl (.tmp 21) (.tmp 24) 24 26 (.agg #[(.int .i64 0), (.bool false), (.slice none 0 0), (.slice none 0 0), (.slice none 0 0)]) 88 rfl Tryd.underlying24 info26 rfl (by decide) (by omega) u3 x3_1 (⟨t192, t193, t194, t197, t200⟩ : S26) [.int .i64 t192, .bool t193, .slice Ao25 t194.length co25, .slice Ao26 t197.length co26, .slice Ao27 t200.length co27] (fun k_ => some k_ ≠ (.slice Ao9 t184.length co9 : Value).ownBlock ∧ some k_ ≠ (.slice Ao12 t187.length co12 : Value).ownBlock ∧ k_ ≠ gb182 ∧ k_ ≠ gb183 ∧ k_ ≠ gb191) (fun k_ => ((fun k_ => some k_ ≠ (.slice Ao9 t184.length co9 : Value).ownBlock ∧ some k_ ≠ (.slice Ao12 t187.length co12 : Value).ownBlock ∧ k_ ≠ gb182 ∧ k_ ≠ gb183 ∧ k_ ≠ gb191)) k_ ∧ some k_ ≠ (u3 : Value).ownBlock) rfl rfl ?aP (fun _ hk => hk) ?aF ?aO ?aB ?aS ?aL ?_; (case aP => exact k26_mkM _ _ _ (⟨t192, t193, t194, t197, t200⟩ : S26) (Kd.R_mono (Kd.R_types (Kd.R_types (Kd.R_types (Kd.R_apart' (Kd.R_apart' (HO196.out) (Kd.R_typed HO_183003.out) (by decide)) (Kd.R_typed HO_3.out) (by decide)) BK182.out (by decide)) BK183.out (by decide)) BK191.out (by decide)) (fun k_ hk => ⟨⟨hk.1.1.1.1.1.2, ⟨hk.1.1.1.1.2, ⟨hk.1.1.2, ⟨hk.1.2, hk.2⟩⟩⟩⟩, hk.1.1.1.2⟩)) (Kd.R_mono (Kd.R_types (Kd.R_types (Kd.R_types (Kd.R_apart' (Kd.R_apart' (HO199.out) (Kd.R_typed HO_183002.out) (by decide)) (Kd.R_typed HO_3.out) (by decide)) BK182.out (by decide)) BK183.out (by decide)) BK191.out (by decide)) (fun k_ hk => ⟨⟨hk.1.1.1.1.2, ⟨hk.1.1.1.1.1.2, ⟨hk.1.1.2, ⟨hk.1.2, hk.2⟩⟩⟩⟩, hk.1.1.1.2⟩)) (Kd.R_mono (HO202.out) (fun k_ hk => ⟨⟨hk.1.1.1.1.2, ⟨hk.1.1.1.2, ⟨hk.1.1.2, ⟨hk.1.2, hk.2⟩⟩⟩⟩, hk.1.1.1.1.1.2⟩))); (case aB => exact (by repeat (first | (with_reducible first | exact HB.out | apply below_alloc | apply pw_below_drewN | apply below_drew1 | refine below_set ?_ GE182.out | refine below_set ?_ GE183.out | refine below_set ?_ GE191.out) | exact HB.out))); (case aF => exact (fun k_ hk => ⟨Kd.fresh' (Kd.R_lt (by (with_reducible repeat (first | apply Kd.R_alloc | apply Kd.R_drewN | apply Kd.R_drew)); exact HO_183002.out)) k_ hk, Kd.fresh' (Kd.R_lt (by (with_reducible repeat (first | apply Kd.R_alloc | apply Kd.R_drewN | apply Kd.R_drew)); exact HO_183003.out)) k_ hk, Kd.freshB (g := gb182) (o := .cells #[.int .i64 a0_0, .bool a0_1, .slice Ao9 t184.length co9, .slice Ao12 t187.length co12, .slice (some ad190) l0_4.length c0_4] 26 (0, 0)) (by (with_reducible repeat (first | refine blk_drewN ?_ _ | refine blk_drew ?_ | refine blk_alloc ?_ _)); exact BK182.out) k_ hk, Kd.freshB (g := gb183) (o := .cells #[.int .i64 0, .bool false, .slice none 0 0, .slice none 0 0, .slice none 0 0] 26 (0, 0)) (by (with_reducible repeat (first | refine blk_drewN ?_ _ | refine blk_drew ?_ | refine blk_alloc ?_ _)); exact BK183.out) k_ hk, Kd.freshB (g := gb191) (o := .cells #[.int .i64 ((rd_T26 l0_4 x17_1).f0), .bool ((rd_T26 l0_4 x17_1).f1), .slice A190_2 ((rd_T26 l0_4 x17_1).f2).length c190_2, .slice A190_3 ((rd_T26 l0_4 x17_1).f3).length c190_3, .slice A190_4 ((rd_T26 l0_4 x17_1).f4).length c190_4] 26 (0, 0)) (by (with_reducible repeat (first | refine blk_drewN ?_ _ | refine blk_drew ?_ | refine blk_alloc ?_ _)); exact BK191.out) k_ hk⟩)); (case aO => exact (by (with_reducible repeat (first | apply Kd.R_alloc | apply Kd.R_drewN | apply Kd.R_drew)); exact Kd.R_mono HO_3.out (fun _ hk => ⟨hk.1.1.1.1.1, ⟨hk.1.1.1.1.2.1, ⟨hk.1.1.1.1.2.2.1, ⟨hk.1.1.1.1.2.2.2, hk.1.1.1.2⟩⟩⟩⟩))); (case aS => exact (below_size (by repeat (first | (with_reducible first | exact HB.out | apply below_alloc | apply pw_below_drewN | apply below_drew1 | refine below_set ?_ GE182.out | refine below_set ?_ GE183.out | refine below_set ?_ GE191.out) | exact HB.out)))); (case aL => have := LMc18.out; omega); intro v204 w24 ho hb hg hat; rw [← Ny203.out] at ho; have n0_ := Aside0.mk (Kd.R_over' (by (with_reducible repeat (first | apply Kd.R_alloc | apply Kd.R_drewN | apply Kd.R_drew)); exact HO_183002.out) (Kd.R_typed (by (with_reducible repeat (first | apply Kd.R_alloc | apply Kd.R_drewN | apply Kd.R_drew)); exact HO_3.out)) (by decide) hg); have n1_ := Aside0.mk (Kd.R_over' (by (with_reducible repeat (first | apply Kd.R_alloc | apply Kd.R_drewN | apply Kd.R_drew)); exact HO_183003.out) (Kd.R_typed (by (with_reducible repeat (first | apply Kd.R_alloc | apply Kd.R_drewN | apply Kd.R_drew)); exact HO_3.out)) (by decide) hg); have n2_ := Aside0.mk (blk_grown (g := gb182) (o := .cells #[.int .i64 a0_0, .bool a0_1, .slice Ao9 t184.length co9, .slice Ao12 t187.length co12, .slice (some ad190) l0_4.length c0_4] 26 (0, 0)) (by (with_reducible repeat (first | refine blk_drewN ?_ _ | refine blk_drew ?_ | refine blk_alloc ?_ _)); exact BK182.out) hg (Kd.R_away HO_3.out (fun _ hk => hk.1.1.1.1.2.2.1))); have n3_ := Aside0.mk (blk_grown (g := gb183) (o := .cells #[.int .i64 0, .bool false, .slice none 0 0, .slice none 0 0, .slice none 0 0] 26 (0, 0)) (by (with_reducible repeat (first | refine blk_drewN ?_ _ | refine blk_drew ?_ | refine blk_alloc ?_ _)); exact BK183.out) hg (Kd.R_away HO_3.out (fun _ hk => hk.1.1.1.1.2.2.2))); have n4_ := Aside0.mk (blk_grown (g := gb191) (o := .cells #[.int .i64 ((rd_T26 l0_4 x17_1).f0), .bool ((rd_T26 l0_4 x17_1).f1), .slice A190_2 ((rd_T26 l0_4 x17_1).f2).length c190_2, .slice A190_3 ((rd_T26 l0_4 x17_1).f3).length c190_3, .slice A190_4 ((rd_T26 l0_4 x17_1).f4).length c190_4] 26 (0, 0)) (by (with_reducible repeat (first | refine blk_drewN ?_ _ | refine blk_drew ?_ | refine blk_alloc ?_ _)); exact BK191.out) hg (Kd.R_away HO_3.out (fun _ hk => hk.1.1.1.2))); have n5_ := Aside0.mk (hb); have n6_ := Aside0.mk (ho); clear HO_183002; clear HO_183003; clear BK182; clear BK183; clear BK191; clear HB; clear HO_3; clear HO196; clear HO199; clear HO202; have HO_183002 := n0_; have HO_183003 := n1_; have BK182 := n2_; have BK183 := n3_; have BK191 := n4_; have HB := n5_; have HO205 := n6_; clear n0_ n1_ n2_ n3_ n4_ n5_ n6_; clear ho hb hg hat))
              go_roundg k1
              case measure => have := HK1.out; omega
              case rel => exact ⟨(y203), (wrap64 (x17_1 + 1)), (by first | rfl | (simp; done) | (simp [*]; done)), H', ⟨by have := HK1.out; omega⟩, ⟨by (with_reducible repeat (first | apply Kd.R_alloc | apply Kd.R_drewN | apply Kd.R_drew)); exact Kd.R_mono HO205.out (fun _ hk => ⟨hk.1, ⟨hk.2.1, ⟨hk.2.2.1, hk.2.2.2.1⟩⟩⟩)⟩, ⟨by (with_reducible repeat (first | apply Kd.R_alloc | apply Kd.R_drewN | apply Kd.R_drew)); exact Kd.R_mono HO_183002.out (fun _ hk => trivial)⟩, ⟨by (with_reducible repeat (first | apply Kd.R_alloc | apply Kd.R_drewN | apply Kd.R_drew)); exact Kd.R_mono HO_183003.out (fun _ hk => trivial)⟩, ⟨by (with_reducible repeat (first | refine blk_drewN ?_ _ | refine blk_drew ?_ | refine blk_alloc ?_ _)); exact BK182.out⟩, ⟨by (with_reducible repeat (first | refine blk_drewN ?_ _ | refine blk_drew ?_ | refine blk_alloc ?_ _)); exact BK183.out⟩, ⟨by repeat (first | (with_reducible first | exact HB.out | apply below_alloc | apply pw_below_drewN | apply below_drew1 | refine below_set ?_ GE182.out | refine below_set ?_ GE183.out | refine below_set ?_ GE191.out) | exact HB.out)⟩⟩
            · rw [if_neg c18] at H
              exact absurd H (by simp)
          · rw [if_neg c16] at H
            exact absurd H (by simp)
        · rw [if_neg c15] at H
          exact absurd H (by simp)
      · rw [if_neg c14] at H
        have c14b0 : decide (x17_1 < (l0_4.length : Int)) = false := decide_eq_false c14
        clear c14
        simp only [Option.some.injEq, Prod.mk.injEq] at H
        obtain ⟨rfl, rfl, rfl, rfl, rfl⟩ := H
        obtain ⟨Ao28, co28, eo28⟩ := Kd.R_slice HO_3.out
        subst eo28
        have hnb29 := NB182_183.out
        have hnc29 := NB183_182.out
        have hcz30_0 : wr.cell? ⟨gb182, 0, none⟩ = some (.int .i64 a0_0) := (blk_cell BK182.out 0).trans rfl
        have hcz30_1 : wr.cell? ⟨gb182, 1, none⟩ = some (.bool a0_1) := (blk_cell BK182.out 1).trans rfl
        have hcz30_2 : wr.cell? ⟨gb182, 2, none⟩ = some (.slice Ao9 t184.length co9) := (blk_cell BK182.out 2).trans rfl
        have hcz30_3 : wr.cell? ⟨gb182, 3, none⟩ = some (.slice Ao12 t187.length co12) := (blk_cell BK182.out 3).trans rfl
        have hcz30_4 : wr.cell? ⟨gb182, 4, none⟩ = some (.slice A0_4 l0_4.length c0_4) := (blk_cell BK182.out 4).trans rfl
        have hfz30_0 := blk_frozen BK182.out 0
        have hfz30_1 := blk_frozen BK182.out 1
        have hfz30_2 := blk_frozen BK182.out 2
        have hfz30_3 := blk_frozen BK182.out 3
        have hfz30_4 := blk_frozen BK182.out 4
        have hcz31_0 : wr.cell? ⟨gb183, 0, none⟩ = some (.int .i64 0) := (blk_cell BK183.out 0).trans rfl
        have hcz31_1 : wr.cell? ⟨gb183, 1, none⟩ = some (.bool false) := (blk_cell BK183.out 1).trans rfl
        have hcz31_2 : wr.cell? ⟨gb183, 2, none⟩ = some (.slice none 0 0) := (blk_cell BK183.out 2).trans rfl
        have hcz31_3 : wr.cell? ⟨gb183, 3, none⟩ = some (.slice none 0 0) := (blk_cell BK183.out 3).trans rfl
        have hcz31_4 : wr.cell? ⟨gb183, 4, none⟩ = some (.slice none 0 0) := (blk_cell BK183.out 4).trans rfl
        have hfz31_0 := blk_frozen BK183.out 0
        have hfz31_1 := blk_frozen BK183.out 1
        have hfz31_2 := blk_frozen BK183.out 2
        have hfz31_3 := blk_frozen BK183.out 3
        have hfz31_4 := blk_frozen BK183.out 4
        go_wp2
        refine bodyPost_ret (results_cell_row rfl _ _ gb183 26 #[.int .i64 a0_0, .bool a0_1, .slice Ao9 t184.length co9, .slice Ao12 t187.length co12, .slice Ao28 x3_1.length co28] (0, 0) _ rfl (by (with_reducible repeat (first | refine blk_drewN ?_ _ | refine blk_drew ?_ | refine blk_alloc ?_ _)); refine blk_put (cs := #[.int .i64 a0_0, .bool a0_1, .slice Ao9 t184.length co9, .slice Ao12 t187.length co12, .slice none 0 0]) ?_ 4 _ rfl; (with_reducible repeat (first | refine blk_drewN ?_ _ | refine blk_drew ?_ | refine blk_alloc ?_ _)); refine blk_put (cs := #[.int .i64 a0_0, .bool a0_1, .slice Ao9 t184.length co9, .slice none 0 0, .slice none 0 0]) ?_ 3 _ rfl; (with_reducible repeat (first | refine blk_drewN ?_ _ | refine blk_drew ?_ | refine blk_alloc ?_ _)); refine blk_put (cs := #[.int .i64 a0_0, .bool a0_1, .slice none 0 0, .slice none 0 0, .slice none 0 0]) ?_ 2 _ rfl; (with_reducible repeat (first | refine blk_drewN ?_ _ | refine blk_drew ?_ | refine blk_alloc ?_ _)); refine blk_put (cs := #[.int .i64 a0_0, .bool false, .slice none 0 0, .slice none 0 0, .slice none 0 0]) ?_ 1 _ rfl; (with_reducible repeat (first | refine blk_drewN ?_ _ | refine blk_drew ?_ | refine blk_alloc ?_ _)); refine blk_put (cs := #[.int .i64 0, .bool false, .slice none 0 0, .slice none 0 0, .slice none 0 0]) ?_ 0 _ rfl; (with_reducible repeat (first | refine blk_drewN ?_ _ | refine blk_drew ?_ | refine blk_alloc ?_ _)); refine blk_far ?_ NB183_182.out _; (with_reducible repeat (first | refine blk_drewN ?_ _ | refine blk_drew ?_ | refine blk_alloc ?_ _)); exact BK183.out) Tryd.underlying26 rfl (by kernel_rfl)) rfl ?_
        exact ⟨_, _, _, by first | rfl | (simp [errW_none, errW_some] <;> rfl) | (simp [*, errW_none, errW_some] <;> rfl), by (with_reducible repeat (first | apply Kd.R_alloc | apply Kd.R_drewN | apply Kd.R_drew)); exact Kd.R_mono (Kd.R_far (p := ⟨gb183, 4, none⟩) (Kd.R_far (p := ⟨gb183, 3, none⟩) (Kd.R_far (p := ⟨gb183, 2, none⟩) (Kd.R_far (p := ⟨gb183, 1, none⟩) (Kd.R_far (p := ⟨gb183, 0, none⟩) (Kd.R_far (p := ⟨gb182, 4, none⟩) (Kd.R_types (Kd.R_types HO_183002.out BK182.out (by decide)) BK183.out (by decide)) (fun _ hk => hk.1.2) (.slice Ao28 x3_1.length co28)) (fun _ hk => hk.2) (.int .i64 a0_0)) (fun _ hk => hk.2) (.bool a0_1)) (fun _ hk => hk.2) (.slice Ao9 t184.length co9)) (fun _ hk => hk.2) (.slice Ao12 t187.length co12)) (fun _ hk => hk.2) (.slice Ao28 x3_1.length co28)) (fun _ hk => trivial), by (with_reducible repeat (first | apply Kd.R_alloc | apply Kd.R_drewN | apply Kd.R_drew)); exact Kd.R_mono (Kd.R_far (p := ⟨gb183, 4, none⟩) (Kd.R_far (p := ⟨gb183, 3, none⟩) (Kd.R_far (p := ⟨gb183, 2, none⟩) (Kd.R_far (p := ⟨gb183, 1, none⟩) (Kd.R_far (p := ⟨gb183, 0, none⟩) (Kd.R_far (p := ⟨gb182, 4, none⟩) (Kd.R_types (Kd.R_types HO_183003.out BK182.out (by decide)) BK183.out (by decide)) (fun _ hk => hk.1.2) (.slice Ao28 x3_1.length co28)) (fun _ hk => hk.2) (.int .i64 a0_0)) (fun _ hk => hk.2) (.bool a0_1)) (fun _ hk => hk.2) (.slice Ao9 t184.length co9)) (fun _ hk => hk.2) (.slice Ao12 t187.length co12)) (fun _ hk => hk.2) (.slice Ao28 x3_1.length co28)) (fun _ hk => trivial), by (with_reducible repeat (first | apply Kd.R_alloc | apply Kd.R_drewN | apply Kd.R_drew)); exact Kd.R_mono (Kd.R_far (p := ⟨gb183, 4, none⟩) (Kd.R_far (p := ⟨gb183, 3, none⟩) (Kd.R_far (p := ⟨gb183, 2, none⟩) (Kd.R_far (p := ⟨gb183, 1, none⟩) (Kd.R_far (p := ⟨gb183, 0, none⟩) (Kd.R_far (p := ⟨gb182, 4, none⟩) (Kd.R_mono (Kd.R_mono HO_3.out (fun k_ hk => (⟨hk, hk.2.2.1⟩ : _ ∧ k_ ≠ gb182))) (fun k_ hk => (⟨hk, hk.1.2.2.2⟩ : _ ∧ k_ ≠ gb183))) (fun _ hk => hk.1.2) (.slice Ao28 x3_1.length co28)) (fun _ hk => hk.2) (.int .i64 a0_0)) (fun _ hk => hk.2) (.bool a0_1)) (fun _ hk => hk.2) (.slice Ao9 t184.length co9)) (fun _ hk => hk.2) (.slice Ao12 t187.length co12)) (fun _ hk => hk.2) (.slice Ao28 x3_1.length co28)) (fun _ hk => ⟨hk.1.1.1, hk.1.1.2.1⟩), by repeat (first | (with_reducible first | exact HB.out | apply below_alloc | apply pw_below_drewN | apply below_drew1 | refine below_set ?_ GE182.out | refine below_set ?_ GE183.out) | exact HB.out)⟩


end Go.Proofs.YtfnofjcdaghniaaDoor.Mt
/- trees: Clone and own hand back the same tree in memory of its own. Own work. -/
namespace Go.Proofs.YtfnofjcdaghniaaDoor.Tree
set_option linter.unusedVariables false
set_option linter.unusedSimpArgs false
open Go.RowKit Go.Proofs.YtfnofjcdaghniaaDoor.PL Go.Proofs.YtfnofjcdaghniaaDoor.Mt Go.Proofs.YtfnofjcdaghniaaDoorW.PrintWords Go.Proofs.YtfnofjcdaghniaaDoorW.PrintLast Go.Proofs.YtfnofjcdaghniaaDoorW.PrintMore
/-- a tree's fields, one by one -/
abbrev T5 (t : S26) : Int × Bool × List Int × List ByteArray × List S26 := (t.f0, t.f1, t.f2, t.f3, t.f4)
theorem rdT {ks : List S26} {i : Nat} (h : i < ks.length) : rd_T26 ks (i : Int) = ks[i] := by
  unfold rd_T26
  rw [Int.toNat_natCast, List.getD_eq_getElem?_getD, List.getElem?_eq_getElem h]
  rfl
theorem own_l (N : Nat) (ih : ∀ t, GT N t → ∃ K, ∀ k, K ≤ k → tree_own.f k t.f0 t.f1 t.f2 t.f3 t.f4 = some (T5 t)) (ks : List S26) (hl : ks.length ≤ 1599289640354) (hg : ∀ a ∈ ks, GT N a) (a0 : Int) (a1 : Bool) (x : List Int) (y : List ByteArray) (z : List S26) :
    ∀ d i, i + d = ks.length → ∃ K, ∀ k, K ≤ k → tree_own.l0 k (ks.take i) ks (ks.length : Int) (i : Int) a0 a1 x y z = some (a0, a1, x, y, ks) := by
  intro d
  induction d with
  | zero =>
    intro i hi
    refine ⟨1, fun k hk => ?_⟩
    obtain ⟨k, rfl⟩ : ∃ q, k = q + 1 := ⟨k - 1, by omega⟩
    simp only [tree_own.l0]
    rw [if_neg (by omega), List.take_of_length_le (by omega)]
  | succ d hd =>
    intro i hi
    have hil : i < ks.length := by omega
    obtain ⟨K1, h1⟩ := ih ks[i] (hg _ (List.getElem_mem hil))
    obtain ⟨K2, h2⟩ := hd (i + 1) (by omega)
    refine ⟨K1 + K2 + 1, fun k hk => ?_⟩
    obtain ⟨k, rfl⟩ : ∃ q, k = q + 1 := ⟨k - 1, by omega⟩
    simp only [tree_own.l0]
    have hlt : (ks.take i).length < 1599289640401 := by rw [List.length_take]; omega
    rw [if_pos (by omega), if_pos (by omega), if_pos (by omega), rdT hil, h1 k (by omega), Option.bind_some, if_pos hlt]
    have h9 := h2 k (by omega)
    rw [List.take_succ_eq_append_getElem hil] at h9
    rw [nx (by omega)]
    clear h1 h2
    generalize ks[i] = q at h9 ⊢
    cases q
    exact h9
theorem own_ev : ∀ (N : Nat) (t : S26), GT N t → ∃ K, ∀ k, K ≤ k → tree_own.f k t.f0 t.f1 t.f2 t.f3 t.f4 = some (T5 t) := by
  intro N
  induction N with
  | zero => intro t h; exact h.elim
  | succ N ih =>
    intro t hG
    obtain ⟨-, ⟨-, a1, -⟩, ⟨-, a3, -⟩, -, a4, a5⟩ := hG
    obtain ⟨K, hK⟩ := own_l N ih t.f4 (by omega) a5 t.f0 t.f1 t.f2 t.f3 t.f4 t.f4.length 0 (by omega)
    refine ⟨K + 1, fun k hk => ?_⟩
    obtain ⟨k, rfl⟩ : ∃ q, k = q + 1 := ⟨k - 1, by omega⟩
    simp only [tree_own.f, bytes_Clone.f, slices_Clone_string_string.f]
    rw [if_pos (by omega), Option.bind_some, if_pos (by omega), Option.bind_some]
    exact hK k (by omega)
theorem clone_l (N : Nat) (ih : ∀ t, GT N t → ∃ K, ∀ k, K ≤ k → pantryref4_Clone.f k t.f0 t.f1 t.f2 t.f3 t.f4 = some (T5 t)) (ks : List S26) (hl : ks.length ≤ 1599289640354) (hg : ∀ a ∈ ks, GT N a) (a0 : Int) (a1 : Bool) (x : List Int) (y : List ByteArray) :
    ∀ d i, i + d = ks.length → ∃ K, ∀ k, K ≤ k → pantryref4_Clone.l0 k (ks.take i) (i : Int) a0 a1 x y ks = some (a0, a1, x, y, ks) := by
  intro d
  induction d with
  | zero =>
    intro i hi
    refine ⟨1, fun k hk => ?_⟩
    obtain ⟨k, rfl⟩ : ∃ q, k = q + 1 := ⟨k - 1, by omega⟩
    simp only [pantryref4_Clone.l0]
    rw [if_neg (by omega), List.take_of_length_le (by omega)]
  | succ d hd =>
    intro i hi
    have hil : i < ks.length := by omega
    obtain ⟨K1, h1⟩ := ih ks[i] (hg _ (List.getElem_mem hil))
    obtain ⟨K2, h2⟩ := hd (i + 1) (by omega)
    refine ⟨K1 + K2 + 1, fun k hk => ?_⟩
    obtain ⟨k, rfl⟩ : ∃ q, k = q + 1 := ⟨k - 1, by omega⟩
    simp only [pantryref4_Clone.l0]
    have hlt : (ks.take i).length < 1599289640401 := by rw [List.length_take]; omega
    rw [if_pos (by omega), if_pos (by omega), rdT hil, h1 k (by omega), Option.bind_some, if_pos hlt]
    have h9 := h2 k (by omega)
    rw [List.take_succ_eq_append_getElem hil] at h9
    rw [nx (by omega)]
    clear h1 h2
    generalize ks[i] = q at h9 ⊢
    cases q
    exact h9
theorem clone_ev : ∀ (N : Nat) (t : S26), GT N t → ∃ K, ∀ k, K ≤ k → pantryref4_Clone.f k t.f0 t.f1 t.f2 t.f3 t.f4 = some (T5 t) := by
  intro N
  induction N with
  | zero => intro t h; exact h.elim
  | succ N ih =>
    intro t hG
    obtain ⟨-, ⟨-, a1, -⟩, ⟨-, a3, -⟩, -, a4, a5⟩ := hG
    obtain ⟨K, hK⟩ := clone_l N ih t.f4 (by omega) a5 t.f0 t.f1 t.f2 t.f3 t.f4.length 0 (by omega)
    refine ⟨K + 1, fun k hk => ?_⟩
    obtain ⟨k, rfl⟩ : ∃ q, k = q + 1 := ⟨k - 1, by omega⟩
    simp only [pantryref4_Clone.f]
    have l1 : ([] : List Int).length + t.f2.length < 140737488355328 := by rw [List.length_nil]; omega
    have l2 : ([] : List ByteArray).length + t.f3.length < 8796093022208 := by rw [List.length_nil]; omega
    rw [Option.bind_some, if_pos l1, Option.bind_some, if_pos l2, List.nil_append, List.nil_append]
    exact hK k (by omega)
/-- a tree in memory of its own -/
def OT (w : World) (base : Nat) (t : S26) (v2 v3 v4 : Value) : Prop :=
  Kd.R (Kd.int .u8) 5 w base (fun _ => True) v2 t.f2 ∧ Kd.R Kd.string 9 w base (fun _ => True) v3 t.f3 ∧ Kd.R k26 26 w base (fun k => some k ≠ v2.ownBlock ∧ some k ≠ v3.ownBlock) v4 t.f4
theorem OT.below {w w1 : World} {base : Nat} {t : S26} {v2 v3 v4 : Value} (h : OT w base t v2 v3 v4) (hb : Below w.heap.size w w1) : OT w1 base t v2 v3 v4 := ⟨Kd.R_below h.1 hb, Kd.R_below h.2.1 hb, Kd.R_below h.2.2 hb⟩
theorem OT.tr {w : World} {base : Nat} {t : S26} {v2 v3 v4 : Value} (h : OT w base t v2 v3 v4) : ∃ A2 c2 A3 c3 A4 c4, v2 = .slice A2 t.f2.length c2 ∧ v3 = .slice A3 t.f3.length c3 ∧ v4 = .slice A4 t.f4.length c4 ∧ TR w t A2 c2 A3 c3 A4 c4 := by
  obtain ⟨A2, c2, e2, l2, g2⟩ := Kd.R_reads h.1
  obtain ⟨A3, c3, e3, l3, g3⟩ := Kd.R_reads h.2.1
  obtain ⟨A4, c4, e4, l4, g4⟩ := Kd.R_reads h.2.2
  exact ⟨A2, c2, A3, c3, A4, c4, e2, e3, e4, l2, g2, l3, g3, l4, g4⟩
theorem Clone_any (N : Nat) (t : S26) (A2 : Option Addr) (c2 : Nat) (A3 : Option Addr) (c3 : Nat) (A4 : Option Addr) (c4 : Nat) (w : World) (h : TR w t A2 c2 A3 c3 A4 c4) (hG : GT N t) :
    Calls Tryd.prog 11 #[TV t A2 c2 A3 c3 A4 c4] w fun e w' => ∃ B2 d2 B3 d3 B4 d4, e = .returned (TV t B2 d2 B3 d3 B4 d4) ∧ OT w' w.heap.size t (.slice B2 t.f2.length d2) (.slice B3 t.f3.length d3) (.slice B4 t.f4.length d4) ∧ TR w' t B2 d2 B3 d3 B4 d4 ∧ Below w.heap.size w w' := by
  obtain ⟨K, hK⟩ := clone_ev N t hG
  obtain ⟨x1, x2, x3, x4, x5, x6⟩ := h
  refine (pantryref4_Clone.calls K t.f0 t.f1 A2 c2 t.f2 A3 c3 t.f3 A4 c4 t.f4 _ _ _ _ _ w x2 x1 x4 x3 x6 x5 (hK K (Nat.le_refl _))).mono ?_
  rintro e w' ⟨v2, v3, v4, rfl, k2, k3, k4, hb⟩
  have ho : OT w' w.heap.size t v2 v3 v4 := ⟨k2, k3, k4⟩
  obtain ⟨B2, d2, B3, d3, B4, d4, rfl, rfl, rfl, ht⟩ := ho.tr
  exact ⟨B2, d2, B3, d3, B4, d4, rfl, ho, ht, hb⟩
theorem own_any (N : Nat) (t : S26) (A2 : Option Addr) (c2 : Nat) (A3 : Option Addr) (c3 : Nat) (A4 : Option Addr) (c4 : Nat) (w : World) (h : TR w t A2 c2 A3 c3 A4 c4) (hG : GT N t) :
    Calls Tryd.prog 34 #[TV t A2 c2 A3 c3 A4 c4] w fun e w' => ∃ B2 d2 B3 d3 B4 d4, e = .returned (TV t B2 d2 B3 d3 B4 d4) ∧ OT w' w.heap.size t (.slice B2 t.f2.length d2) (.slice B3 t.f3.length d3) (.slice B4 t.f4.length d4) ∧ TR w' t B2 d2 B3 d3 B4 d4 ∧ Below w.heap.size w w' := by
  obtain ⟨K, hK⟩ := own_ev N t hG
  obtain ⟨x1, x2, x3, x4, x5, x6⟩ := h
  refine (tree_own.calls K t.f0 t.f1 A2 c2 t.f2 A3 c3 t.f3 A4 c4 t.f4 _ _ _ _ _ w x2 x1 x4 x3 x6 x5 (hK K (Nat.le_refl _))).mono ?_
  rintro e w' ⟨v2, v3, v4, rfl, k2, k3, k4, hb⟩
  have ho : OT w' w.heap.size t v2 v3 v4 := ⟨k2, k3, k4⟩
  obtain ⟨B2, d2, B3, d3, B4, d4, rfl, rfl, rfl, ht⟩ := ho.tr
  exact ⟨B2, d2, B3, d3, B4, d4, rfl, ho, ht, hb⟩
end Go.Proofs.YtfnofjcdaghniaaDoor.Tree
/- trees: heavy, of a row of trees. Own work. -/
namespace Go.Proofs.YtfnofjcdaghniaaDoor.Tree
set_option linter.unusedVariables false
set_option linter.unusedSimpArgs false
open Go.RowKit Go.Proofs.YtfnofjcdaghniaaDoor.PL Go.Proofs.YtfnofjcdaghniaaDoor.Mt Go.Proofs.YtfnofjcdaghniaaDoorW.PrintWords Go.Proofs.YtfnofjcdaghniaaDoorW.PrintLast Go.Proofs.YtfnofjcdaghniaaDoorW.PrintMore
set_option maxRecDepth 20000 in
set_option maxHeartbeats 1000000 in
theorem heavy_any (N : Nat) (ts : List S26) (A : Option Addr) (c : Nat) (w : World) (hC : k26.C w A ts.length ts) (hG : ∀ t ∈ ts, GT N t) (hl : ts.length ≤ 100) :
    Calls Tryd.prog 10 #[.slice A ts.length c] w fun e w' => ∃ r : Bool, e = .returned (.bool r) ∧ Below w.heap.size w w' ∧ (r = false → ∀ t ∈ ts, Wt N t ≤ 3000) := by
  have HC := Aside0.mk hC
  have HG := Aside0.mk hG
  have HB0 : Aside0 ((w.alloc (.cells #[.int .i64 0] 3)).heap[w.heap.size]? = some (.cells #[.int .i64 ((0 : Nat) : Int)] 3 (0, 0))) := ⟨heap_alloc_new w _⟩
  have HW0 : Aside0 (Below w.heap.size w (w.alloc (.cells #[.int .i64 0] 3))) := ⟨below_alloc (Below.refl _ w) _⟩
  clear hC hG
  go_enter Tryd.func10, Tryd.ntmps10
  go_upto_region 2 with fail
  generalize (w.alloc (.cells #[.int .i64 0] 3)) = w1 at *
  obtain ⟨g, hg⟩ : ∃ q, w.heap.size = q := ⟨_, rfl⟩
  rw [hg] at HB0 ⊢
  have HGE : Aside0 (w.heap.size ≤ g) := ⟨by omega⟩
  clear hg
  go_upto_region 3 with fail
  go_loopw [4] (fun v wr => ∃ (k m : Nat), v = .int .i64 (k : Int) ∧ k ≤ ts.length ∧ m ≤ 3000 ∧ Aside0 (wr.heap[g]? = some (.cells #[.int .i64 (m : Int)] 3 (0, 0))) ∧ Aside0 (Below w.heap.size w wr) ∧ Aside0 (∀ t ∈ ts.take k, Wt N t ≤ 3000)) (fun v _ => ts.length - (intOf v).toNat)
  case atStart => exact ⟨0, 0, rfl, Nat.zero_le _, by omega, HB0, HW0, ⟨fun t h => by simp at h⟩⟩
  case round =>
    obtain ⟨k, m, rfl, hk, hm, HGb, HBk, HT⟩ := hrel
    by_cases hlt : k < ts.length
    · obtain ⟨ad, B2, d2, B3, d3, B4, d4, hA, e0, e1, e2, e3, e4, r1, r2, r3, r4, r5, r6⟩ := at_T26 HC.out (k : Int) (by omega) (by omega)
      obtain ⟨u, hu⟩ : ∃ x, rd_T26 ts (k : Int) = x := ⟨_, rfl⟩
      have hue : ts[k] = u := by rw [← hu, rdT hlt]
      have HU := Aside0.mk hue
      have HGU : Aside0 (GT N u) := ⟨hue ▸ HG.out _ (List.getElem_mem hlt)⟩
      rw [hu] at e0 e1 e2 e3 e4 r1 r2 r3 r4 r5 r6
      rw [Int.toNat_natCast] at e0 e1 e2 e3 e4
      have f0 := pw_cell_below HBk.out e0
      have f1 := pw_cell_below HBk.out e1
      have f2 := pw_cell_below HBk.out e2
      have f3 := pw_cell_below HBk.out e3
      have f4 := pw_cell_below HBk.out e4
      have HTR : Aside0 (TR w u B2 d2 B3 d3 B4 d4) := ⟨⟨r1, r2, r3, r4, r5, r6⟩⟩
      subst hA
      clear hue hu e0 e1 e2 e3 e4 r1 r2 r3 r4 r5 r6
      go_wp2_with fail
      refine (great_any w N u B2 d2 B3 d3 B4 d4 wr g m HTR.out HGU.out HBk.out HGE.out HGb.out (by omega)).mono ?_
      rintro e_ w7 ⟨r, n', rfl, hg7, hk7, hb7, hr7⟩
      have HG7 := Aside0.mk hg7
      have HB7 := Aside0.mk hb7
      have HR7 := Aside0.mk hr7
      clear hg7 hk7 hb7 hr7 f0 f1 f2 f3 f4 HGb HBk
      cases r with
      | true =>
        go_wp2_with fail
        exact bodyPost_ret (v := .bool true) (by simp [results, Tryd.results10, go_sem]) rfl ⟨true, rfl, HB7.out, fun h => by cases h⟩
      | false =>
        go_wp2_with fail
        obtain ⟨hn7, hle7⟩ := HR7.out trivial
        refine ⟨⟨k + 1, n', by go_num, by omega, hle7, HG7, HB7, ⟨fun t ht => ?_⟩⟩, by simp [intOf]; omega⟩
        rw [List.take_succ_eq_append_getElem hlt, List.mem_append, List.mem_singleton, HU.out] at ht
        rcases ht with h | h
        · exact HT.out t h
        · rw [h]; omega
    · have hkk : k = ts.length := by omega
      subst hkk
      have HT9 : Aside0 (∀ t ∈ ts, Wt N t ≤ 3000) := ⟨by have := HT.out; rwa [List.take_length] at this⟩
      go_wp2_with fail
      exact bodyPost_ret (v := .bool false) (by simp [results, Tryd.results10, go_sem]) rfl ⟨false, rfl, HBk.out, fun _ => HT9.out⟩
/-- a tree by value, told by its cells -/
abbrev cs5 (t : S26) (A2 : Option Addr) (c2 : Nat) (A3 : Option Addr) (c3 : Nat) (A4 : Option Addr) (c4 : Nat) : List Value := [.int .i64 t.f0, .bool t.f1, .slice A2 t.f2.length c2, .slice A3 t.f3.length c3, .slice A4 t.f4.length c4]
theorem TR.K {w : World} {t : S26} {A2 : Option Addr} {c2 : Nat} {A3 : Option Addr} {c3 : Nat} {A4 : Option Addr} {c4 : Nat} (h : TR w t A2 c2 A3 c3 A4 c4) : k26.K w t (cs5 t A2 c2 A3 c3 A4 c4) := k26_mk w t h.1 h.2.1 h.2.2.1 h.2.2.2.1 h.2.2.2.2.1 h.2.2.2.2.2
theorem cs5_one (t : S26) (A2 : Option Addr) (c2 : Nat) (A3 : Option Addr) (c3 : Nat) (A4 : Option Addr) (c4 : Nat) : ∀ u ∈ cs5 t A2 c2 A3 c3 A4 c4, u.oneCell' = true := by
  intro u hu
  simp only [List.mem_cons, List.not_mem_nil, or_false] at hu
  rcases hu with rfl | rfl | rfl | rfl | rfl <;> rfl
/-- a row of one tree, laid -/
theorem one_C {w : World} {g : Nat} {t : S26} {A2 : Option Addr} {c2 : Nat} {A3 : Option Addr} {c3 : Nat} {A4 : Option Addr} {c4 : Nat} (hb : w.heap[g]? = some (.cells (cs5 t A2 c2 A3 c3 A4 c4).toArray 26 (0, 0))) (h : TR w t A2 c2 A3 c3 A4 c4) : k26.C w (some ⟨g, 0, none⟩) 1 [t] := by
  refine ⟨rfl, by decide, fun _ => ⟨_, rfl, fun j p hp => ?_⟩⟩
  have hj : j = 0 := by have := (List.getElem?_eq_some_iff.1 hp).1; simp at this; exact this
  subst hj
  simp only [List.getElem?_cons_zero, Option.some.injEq] at hp
  subst hp
  refine ⟨cs5 t A2 c2 A3 c3 A4 c4, rfl, h.K, fun i u hi => ?_⟩
  have hc := blk_cell hb i
  have e : (⟨g, 0, none⟩ : Addr).add (0 * 5 + i) = ⟨g, i, none⟩ := by simp [Addr.add]; exact fun h => h.symm
  show w.cell? ((⟨g, 0, none⟩ : Addr).add (0 * 5 + i)) = some u
  rw [e, hc]
  simpa using hi
end Go.Proofs.YtfnofjcdaghniaaDoor.Tree
