-- Laid by a program of this session out of the kit's print, changed; see NOTES.md
import Derived.Test.YtgenfggjonhmgaaMm0
import Derived.Test.YtgenfggjonhmgaaMm1
namespace Go.Proofs.Ytgenfggjonhmgaa.Mm
open Go.Proofs.Ytgenfggjonhmgaa.Ml Go.Proofs.Ytgenfggjonhmgaa Go.RowKit Go.Proofs.YtgenfggjonhmgaaW.PrintWords Go.Proofs.YtgenfggjonhmgaaW.PrintLast Go.Proofs.YtgenfggjonhmgaaW.PrintMore
attribute [local go_sem] max2_int min2_int max_two min_two max_three min_three max_four min_four   -- for this text's walks alone
set_option linter.unusedVariables false
set_option linter.unusedSimpArgs false

/-! ### pantrylaw22_LexHoles: function 8 -/
mutual
def pantrylaw22_LexHoles.j0 : Nat → List ByteArray → Bool → Option (Bool)
  | 0, _, _ => none
  | k + 1, x0, x24 => if x24 = true then (some true) else (pantrylaw22_LexHoles.l0 k x0 (⟨#[34]⟩ : ByteArray) 2 0)
def pantrylaw22_LexHoles.l0 : Nat → List ByteArray → ByteArray → Int → Int → Option (Bool)
  | 0, _, _, _, _ => none
  | k + 1, x0, x5, x6, x7 => if x7 < (x0.length : Int) then (pantrylaw22_LexHoles.l1 k x0 x5 x6 x7 0) else (if x5.size + 1 ≤ 9223372036854775807 then ((lex_Lex.f (x5 ++ (⟨#[34]⟩ : ByteArray))).bind fun bt240 => (if bt240.2.2 = 0 then (if (bt240.1.length : Int) = (wrap64 (x6 + 1)) then (if 0 < (bt240.1.length : Int) then (if ((rd_T28 bt240.1 0).f0) = 5 then (if 0 ≤ (wrap64 (x6 - 1)) then (if (wrap64 (x6 - 1)) < (bt240.1.length : Int) then (pantrylaw22_LexHoles.j3 k x0 bt240.1 (((rd_T28 bt240.1 (wrap64 (x6 - 1))).f0) != 8)) else (none)) else (none)) else (pantrylaw22_LexHoles.j3 k x0 bt240.1 true)) else (none)) else (pantrylaw22_LexHoles.j3 k x0 bt240.1 true)) else (pantrylaw22_LexHoles.j3 k x0 bt240.1 true))) else (none))
def pantrylaw22_LexHoles.l1 : Nat → List ByteArray → ByteArray → Int → Int → Int → Option (Bool)
  | 0, _, _, _, _, _ => none
  | k + 1, x0, x5, x6, x7, x8 => if 0 ≤ x7 then (if x7 < (x0.length : Int) then (if x8 < ((rdOf ByteArray.empty x0 x7).size : Int) then (if 0 ≤ x8 then (if (bt (rdOf ByteArray.empty x0 x7) x8) < 97 then ((pantrylaw22_known.f k).bind fun t232 => (some t232)) else (if (bt (rdOf ByteArray.empty x0 x7) x8) > 101 then ((pantrylaw22_known.f k).bind fun t234 => (some t234)) else (pantrylaw22_LexHoles.l1 k x0 x5 x6 x7 (wrap64 (x8 + 1))))) else (none)) else (if (rdOf ByteArray.empty x0 x7).toList = ([] : List UInt8) then ((pantrylaw22_known.f k).bind fun t236 => (some t236)) else (if ((rdOf ByteArray.empty x0 x7).size : Int) > 50 then ((pantrylaw22_known.f k).bind fun t238 => (some t238)) else (if x5.size + 3 ≤ 9223372036854775807 then (if (x5 ++ (⟨#[112, 36, 123]⟩ : ByteArray)).size + (rdOf ByteArray.empty x0 x7).size ≤ 9223372036854775807 then (if ((x5 ++ (⟨#[112, 36, 123]⟩ : ByteArray)) ++ (rdOf ByteArray.empty x0 x7)).size + 2 ≤ 9223372036854775807 then (pantrylaw22_LexHoles.l0 k x0 (((x5 ++ (⟨#[112, 36, 123]⟩ : ByteArray)) ++ (rdOf ByteArray.empty x0 x7)) ++ (⟨#[120, 125]⟩ : ByteArray)) (wrap64 (x6 + 4)) (wrap64 (x7 + 1))) else (none)) else (none)) else (none))))) else (none)) else (none)
def pantrylaw22_LexHoles.j3 : Nat → List ByteArray → List (S28) → Bool → Option (Bool)
  | 0, _, _, _ => none
  | k + 1, x0, x9, x112 => if x112 = true then (some false) else (pantrylaw22_LexHoles.l2 k x0 x9 0)
def pantrylaw22_LexHoles.l2 : Nat → List ByteArray → List (S28) → Int → Option (Bool)
  | 0, _, _, _ => none
  | k + 1, x0, x9, x12 => if x12 < (x0.length : Int) then (if 0 ≤ (wrap64 (1 + (wrap64 (4 * x12)))) then (if (wrap64 (1 + (wrap64 (4 * x12)))) ≤ (wrap64 (5 + (wrap64 (4 * x12)))) then (if (wrap64 (5 + (wrap64 (4 * x12)))) ≤ (x9.length : Int) then ((some ((x9.take ((wrap64 (5 + (wrap64 (4 * x12)))) : Int).toNat).drop ((wrap64 (1 + (wrap64 (4 * x12)))) : Int).toNat : List (S28))).bind fun y247 => (if 0 < (y247.length : Int) then (if ((rd_T28 y247 0).f0) = 6 then (if ((rd_T28 y247 0).f1).toList = ([112] : List UInt8) then (if 1 < (y247.length : Int) then (if ((rd_T28 y247 1).f0) = 7 then (if 2 < (y247.length : Int) then (if ((rd_T28 y247 2).f0) = 2 then (if 0 ≤ x12 then (if (rdOf ByteArray.empty x0 x12).size + 1 ≤ 9223372036854775807 then (if ((rd_T28 y247 2).f1).toList = ((rdOf ByteArray.empty x0 x12) ++ (⟨#[120]⟩ : ByteArray)).toList then (if 3 < (y247.length : Int) then (if ((rd_T28 y247 3).f0) = 4 then (if ((rd_T28 y247 3).f1).toList = ([125] : List UInt8) then (pantrylaw22_LexHoles.l2 k x0 x9 (wrap64 (x12 + 1))) else (some false)) else (some false)) else (none)) else (some false)) else (none)) else (none)) else (some false)) else (none)) else (some false)) else (none)) else (some false)) else (some false)) else (none))) else (none)) else (none)) else (none)) else ((pantrylaw22_known.f k).bind fun t259 => (some t259))
end
def pantrylaw22_LexHoles.f (k : Nat) (l0 : List ByteArray) (a1 : Int) : Option (Bool) := if (l0.length : Int) > 20 then (pantrylaw22_LexHoles.j0 k l0 true) else (if a1 < 0 then (pantrylaw22_LexHoles.j0 k l0 true) else (pantrylaw22_LexHoles.j0 k l0 (decide (a1 > 50))))
theorem pantrylaw22_LexHoles.mono_l : ∀ k, (∀ y0 y1, LeO (pantrylaw22_LexHoles.j0 k y0 y1) (pantrylaw22_LexHoles.j0 (k + 1) y0 y1)) ∧ (∀ y0 y1 y2 y3, LeO (pantrylaw22_LexHoles.l0 k y0 y1 y2 y3) (pantrylaw22_LexHoles.l0 (k + 1) y0 y1 y2 y3)) ∧ (∀ y0 y1 y2 y3 y4, LeO (pantrylaw22_LexHoles.l1 k y0 y1 y2 y3 y4) (pantrylaw22_LexHoles.l1 (k + 1) y0 y1 y2 y3 y4)) ∧ (∀ y0 y1 y2, LeO (pantrylaw22_LexHoles.j3 k y0 y1 y2) (pantrylaw22_LexHoles.j3 (k + 1) y0 y1 y2)) ∧ (∀ y0 y1 y2, LeO (pantrylaw22_LexHoles.l2 k y0 y1 y2) (pantrylaw22_LexHoles.l2 (k + 1) y0 y1 y2))
  | 0 => ⟨fun _ _ r h => by simp [pantrylaw22_LexHoles.j0] at h, fun _ _ _ _ r h => by simp [pantrylaw22_LexHoles.l0] at h, fun _ _ _ _ _ r h => by simp [pantrylaw22_LexHoles.l1] at h, fun _ _ _ r h => by simp [pantrylaw22_LexHoles.j3] at h, fun _ _ _ r h => by simp [pantrylaw22_LexHoles.l2] at h⟩
  | k + 1 => by
    obtain ⟨ih0, ih1, ih2, ih3, ih4⟩ := pantrylaw22_LexHoles.mono_l k
    refine ⟨?_, ?_, ?_, ?_, ?_⟩
    · intro y0 y1
      unfold pantrylaw22_LexHoles.j0
      repeat' first
      | (with_reducible exact ih0 _ _)
      | (with_reducible exact ih1 _ _ _ _)
      | (with_reducible exact ih2 _ _ _ _ _)
      | (with_reducible exact ih3 _ _ _)
      | (with_reducible exact ih4 _ _ _)
      | (with_reducible exact pantrylaw22_known.mono _)
      | (with_reducible exact LeO.refl _)
      | (with_reducible exact LeO.none _)
      | (with_reducible refine LeO.ite ?_ ?_)
      | (with_reducible refine LeO.bind ?_ (fun _ => ?_))
      | exact ih0 _ _
      | exact ih1 _ _ _ _
      | exact ih2 _ _ _ _ _
      | exact ih3 _ _ _
      | exact ih4 _ _ _
      | exact pantrylaw22_known.mono _
      | exact LeO.none _
      | refine LeO.ite ?_ ?_
      | refine LeO.bind ?_ (fun _ => ?_)
    · intro y0 y1 y2 y3
      unfold pantrylaw22_LexHoles.l0
      repeat' first
      | (with_reducible exact ih0 _ _)
      | (with_reducible exact ih1 _ _ _ _)
      | (with_reducible exact ih2 _ _ _ _ _)
      | (with_reducible exact ih3 _ _ _)
      | (with_reducible exact ih4 _ _ _)
      | (with_reducible exact pantrylaw22_known.mono _)
      | (with_reducible exact LeO.refl _)
      | (with_reducible exact LeO.none _)
      | (with_reducible refine LeO.ite ?_ ?_)
      | (with_reducible refine LeO.bind ?_ (fun _ => ?_))
      | exact ih0 _ _
      | exact ih1 _ _ _ _
      | exact ih2 _ _ _ _ _
      | exact ih3 _ _ _
      | exact ih4 _ _ _
      | exact pantrylaw22_known.mono _
      | exact LeO.none _
      | refine LeO.ite ?_ ?_
      | refine LeO.bind ?_ (fun _ => ?_)
    · intro y0 y1 y2 y3 y4
      unfold pantrylaw22_LexHoles.l1
      repeat' first
      | (with_reducible exact ih0 _ _)
      | (with_reducible exact ih1 _ _ _ _)
      | (with_reducible exact ih2 _ _ _ _ _)
      | (with_reducible exact ih3 _ _ _)
      | (with_reducible exact ih4 _ _ _)
      | (with_reducible exact pantrylaw22_known.mono _)
      | (with_reducible exact LeO.refl _)
      | (with_reducible exact LeO.none _)
      | (with_reducible refine LeO.ite ?_ ?_)
      | (with_reducible refine LeO.bind ?_ (fun _ => ?_))
      | exact ih0 _ _
      | exact ih1 _ _ _ _
      | exact ih2 _ _ _ _ _
      | exact ih3 _ _ _
      | exact ih4 _ _ _
      | exact pantrylaw22_known.mono _
      | exact LeO.none _
      | refine LeO.ite ?_ ?_
      | refine LeO.bind ?_ (fun _ => ?_)
    · intro y0 y1 y2
      unfold pantrylaw22_LexHoles.j3
      repeat' first
      | (with_reducible exact ih0 _ _)
      | (with_reducible exact ih1 _ _ _ _)
      | (with_reducible exact ih2 _ _ _ _ _)
      | (with_reducible exact ih3 _ _ _)
      | (with_reducible exact ih4 _ _ _)
      | (with_reducible exact pantrylaw22_known.mono _)
      | (with_reducible exact LeO.refl _)
      | (with_reducible exact LeO.none _)
      | (with_reducible refine LeO.ite ?_ ?_)
      | (with_reducible refine LeO.bind ?_ (fun _ => ?_))
      | exact ih0 _ _
      | exact ih1 _ _ _ _
      | exact ih2 _ _ _ _ _
      | exact ih3 _ _ _
      | exact ih4 _ _ _
      | exact pantrylaw22_known.mono _
      | exact LeO.none _
      | refine LeO.ite ?_ ?_
      | refine LeO.bind ?_ (fun _ => ?_)
    · intro y0 y1 y2
      unfold pantrylaw22_LexHoles.l2
      repeat' first
      | (with_reducible exact ih0 _ _)
      | (with_reducible exact ih1 _ _ _ _)
      | (with_reducible exact ih2 _ _ _ _ _)
      | (with_reducible exact ih3 _ _ _)
      | (with_reducible exact ih4 _ _ _)
      | (with_reducible exact pantrylaw22_known.mono _)
      | (with_reducible exact LeO.refl _)
      | (with_reducible exact LeO.none _)
      | (with_reducible refine LeO.ite ?_ ?_)
      | (with_reducible refine LeO.bind ?_ (fun _ => ?_))
      | exact ih0 _ _
      | exact ih1 _ _ _ _
      | exact ih2 _ _ _ _ _
      | exact ih3 _ _ _
      | exact ih4 _ _ _
      | exact pantrylaw22_known.mono _
      | exact LeO.none _
      | refine LeO.ite ?_ ?_
      | refine LeO.bind ?_ (fun _ => ?_)
theorem pantrylaw22_LexHoles.mono : ∀ a0 a1 k, LeO (pantrylaw22_LexHoles.f k a0 a1) (pantrylaw22_LexHoles.f (k + 1) a0 a1) := by
  intro a0 a1 k
  obtain ⟨ih0, ih1, ih2, ih3, ih4⟩ := pantrylaw22_LexHoles.mono_l k
  unfold pantrylaw22_LexHoles.f
  repeat' first
      | (with_reducible exact ih0 _ _)
      | (with_reducible exact ih1 _ _ _ _)
      | (with_reducible exact ih2 _ _ _ _ _)
      | (with_reducible exact ih3 _ _ _)
      | (with_reducible exact ih4 _ _ _)
      | (with_reducible exact pantrylaw22_known.mono _)
      | (with_reducible exact LeO.refl _)
      | (with_reducible exact LeO.none _)
      | (with_reducible refine LeO.ite ?_ ?_)
      | (with_reducible refine LeO.bind ?_ (fun _ => ?_))
      | exact ih0 _ _
      | exact ih1 _ _ _ _
      | exact ih2 _ _ _ _ _
      | exact ih3 _ _ _
      | exact ih4 _ _ _
      | exact pantrylaw22_known.mono _
      | exact LeO.none _
      | refine LeO.ite ?_ ?_
      | refine LeO.bind ?_ (fun _ => ?_)
set_option maxHeartbeats 8000000 in
set_option maxRecDepth 100000 in
theorem pantrylaw22_LexHoles.calls (k : Nat) (A0 : Option Addr) (c0 : Nat) (l0 : List ByteArray) (a1 : Int) (r : Bool) (w : World) (hr0 : Kd.C Kd.string w A0 l0.length l0) (hc0 : l0.length ≤ c0) (h : pantrylaw22_LexHoles.f k l0 a1 = some r) (hr_ : r = true) :
    Calls Try.prog 8 #[.slice A0 l0.length c0, .int .i64 a1] w fun e w' => e = .returned (.bool r) ∧ Below w.heap.size w w' := by
  have HRT_ := Aside0.mk hr_
  clear hr_
  have HR0 := Aside0.mk hr0
  have HC0 := Aside0.mk hc0
  clear hr0 hc0
  have HB := Aside0.mk (Below.refl w.heap.size w)
  have H : (if (l0.length : Int) > 20 then (pantrylaw22_LexHoles.j0 k l0 true) else (if a1 < 0 then (pantrylaw22_LexHoles.j0 k l0 true) else (pantrylaw22_LexHoles.j0 k l0 (decide (a1 > 50))))) = some r := h
  clear h
  have HC3 := Aside0.mk H
  clear H
  go_enter Try.func8, Try.ntmps8
  go_upto_region 1 with (fail)
  repeat (go_quiet (fail); go_upto_region 1 with (fail))
  go_cut [24] (fun v24 wc => ∃ (kq : Nat) (x24_2 : Bool), v24 = .bool x24_2 ∧ Aside0 (pantrylaw22_LexHoles.j0 kq l0 x24_2 = some r) ∧ Aside0 (kq ≤ k) ∧ Aside0 (Below w.heap.size w wc))
  case first =>
    have H := HC3.out
    clear HC3
    by_cases c4 : (l0.length : Int) > 20
    · rw [if_pos c4] at H
      have c4b0 : decide (20 < (l0.length : Int)) = true := decide_eq_true c4
      have c4b1 : decide (20 < l0.length) = true := decide_eq_true (by omega)
      clear c4
      (first | rw [c4b0] | (simp only [i64_w, i32_w]; rw [c4b0]) | skip)
      have H' := Aside0.mk H
      clear H
      go_wp2
      repeat (go_quiet (fail); try go_wp2)
      go_meet
      case rel => exact ⟨_, (true), (by first | rfl | (simp; done) | (simp [*]; done)), H', ⟨by first | omega | exact Nat.le_refl _⟩, ⟨by repeat (first | (with_reducible first | exact HB.out | apply below_alloc | apply pw_below_drewN | apply below_drew1) | exact HB.out)⟩⟩
    · rw [if_neg c4] at H
      have c4b0 : decide (20 < (l0.length : Int)) = false := decide_eq_false c4
      have c4b1 : decide (20 < l0.length) = false := decide_eq_false (by omega)
      clear c4
      (first | rw [c4b0] | (simp only [i64_w, i32_w]; rw [c4b0]) | skip)
      by_cases c5 : a1 < 0
      · rw [if_pos c5] at H
        have c5b0 : decide (a1 < 0) = true := decide_eq_true c5
        clear c5
        have H' := Aside0.mk H
        clear H
        go_wp2
        repeat (go_quiet (fail); try go_wp2)
        go_meet
        case rel => exact ⟨_, (true), (by first | rfl | (simp; done) | (simp [*]; done)), H', ⟨by first | omega | exact Nat.le_refl _⟩, ⟨by repeat (first | (with_reducible first | exact HB.out | apply below_alloc | apply pw_below_drewN | apply below_drew1) | exact HB.out)⟩⟩
      · rw [if_neg c5] at H
        have c5b0 : decide (a1 < 0) = false := decide_eq_false c5
        clear c5
        have H' := Aside0.mk H
        clear H
        go_wp2
        repeat (go_quiet (fail); try go_wp2)
        go_meet
        case rel => exact ⟨_, (decide (a1 > 50)), (by first | rfl | (simp; done) | (simp [*]; done)), H', ⟨by first | omega | exact Nat.le_refl _⟩, ⟨by repeat (first | (with_reducible first | exact HB.out | apply below_alloc | apply pw_below_drewN | apply below_drew1) | exact HB.out)⟩⟩
  case rest =>
    clear HC3
    try clear p2
    try clear c4
    try clear c4b0
    try clear c4b1
    try clear c5
    try clear c5b0
    obtain ⟨kq, x24_2, rfl, HA, HJ2, HB⟩ := hcut
    cases kq with
    | zero => exact absurd HA.out (by simp [pantrylaw22_LexHoles.j0])
    | succ kj2 =>
      have H := HA.out
      clear HA
      simp only [pantrylaw22_LexHoles.j0] at H
      by_cases c6 : x24_2 = true
      · subst c6
        have H1 : (some true) = some r := by rw [if_pos rfl] at H; exact H
        clear H
        have H := H1
        clear H1
        first
          | exact absurd (show false = true from (Option.some.inj H).trans HRT_.out) (by decide)
          | (skip
             obtain rfl := Option.some.inj H
             go_wp2
             repeat (go_quiet (fail); try go_wp2)
             go_ret
             exact ⟨by first | rfl | (simp [errW_none, errW_some] <;> rfl) | (simp [*, errW_none, errW_some] <;> rfl), by repeat (first | (with_reducible first | exact HB.out | apply below_alloc | apply pw_below_drewN | apply below_drew1) | exact HB.out)⟩)
      · replace c6 := Bool.eq_false_iff.mpr c6
        subst c6
        have H1 : (pantrylaw22_LexHoles.l0 kj2 l0 (⟨#[34]⟩ : ByteArray) 2 0) = some r := by rw [if_neg (show ¬ (false = true) by decide)] at H; exact H
        clear H
        have H := H1
        clear H1
        have H' := Aside0.mk H
        clear H
        go_wp2
        repeat (go_quiet (fail); try go_wp2)
        go_loopg [5, 6, 7] kj2 (fun kq v5 v6 v7 w' => ∃ (x5_2 : ByteArray) (x6_2 : Int) (x7_2 : Int), v5 = .string x5_2 ∧ v6 = .int .i64 x6_2 ∧ v7 = .int .i64 x7_2 ∧ Aside0 (pantrylaw22_LexHoles.l0 kq l0 x5_2 x6_2 x7_2 = some r) ∧ Aside0 (kq ≤ kj2) ∧ Aside0 (Below w.heap.size w w'))
        case atStart => exact ⟨((⟨#[34]⟩ : ByteArray)), (2), (0), (by first | rfl | (simp; done) | (simp [*]; done)), (by first | rfl | (simp; done) | (simp [*]; done)), (by first | rfl | (simp; done) | (simp [*]; done)), H', ⟨Nat.le_refl _⟩, ⟨by repeat (first | (with_reducible first | exact HB.out | apply below_alloc | apply pw_below_drewN | apply below_drew1) | exact HB.out)⟩⟩
        case round =>
          clear H'
          try clear p2
          try clear c4
          try clear c4b0
          try clear c4b1
          try clear c5
          try clear c5b0
          try clear c6
          try clear p2
          obtain ⟨x5_2, x6_2, x7_2, rfl, rfl, rfl, HA, HK2, HB⟩ := hrel
          cases gk with
          | zero => exact absurd HA.out (by simp [pantrylaw22_LexHoles.l0])
          | succ k2 =>
            have H := HA.out
            clear HA
            simp only [pantrylaw22_LexHoles.l0] at H
            by_cases c7 : x7_2 < (l0.length : Int)
            · rw [if_pos c7] at H
              have c7b0 : decide (x7_2 < (l0.length : Int)) = true := decide_eq_true c7
              clear c7
              have H' := Aside0.mk H
              clear H
              go_wp2
              repeat (go_quiet (fail); try go_wp2)
              go_loopg [8] k2 (fun kq v8 w' => ∃ (x8_3 : Int), v8 = .int .i64 x8_3 ∧ Aside0 (pantrylaw22_LexHoles.l1 kq l0 x5_2 x6_2 x7_2 x8_3 = some r) ∧ Aside0 (kq ≤ k2) ∧ Aside0 (Below w.heap.size w w'))
              case atStart => exact ⟨(0), (by first | rfl | (simp; done) | (simp [*]; done)), H', ⟨Nat.le_refl _⟩, ⟨by repeat (first | (with_reducible first | exact HB.out | apply below_alloc | apply pw_below_drewN | apply below_drew1) | exact HB.out)⟩⟩
              case round =>
                clear H'
                try clear p2
                try clear c4
                try clear c4b0
                try clear c4b1
                try clear c5
                try clear c5b0
                try clear c6
                try clear c7
                try clear c7b0
                try clear p2
                obtain ⟨x8_3, rfl, HA, HK3, HB⟩ := hrel
                cases gk with
                | zero => exact absurd HA.out (by simp [pantrylaw22_LexHoles.l1])
                | succ k3 =>
                  have H := HA.out
                  clear HA
                  simp only [pantrylaw22_LexHoles.l1] at H
                  by_cases c8 : 0 ≤ x7_2
                  · rw [if_pos c8] at H
                    have c8b0 : decide (0 ≤ x7_2) = true := decide_eq_true c8
                    clear c8
                    by_cases c9 : x7_2 < (l0.length : Int)
                    · rw [if_pos c9] at H
                      have c9b0 : decide (x7_2 < (l0.length : Int)) = true := decide_eq_true c9
                      clear c9
                      by_cases c10 : x8_3 < ((rdOf ByteArray.empty l0 x7_2).size : Int)
                      · rw [if_pos c10] at H
                        have c10b0 : decide (x8_3 < ((rdOf ByteArray.empty l0 x7_2).size : Int)) = true := decide_eq_true c10
                        clear c10
                        by_cases c11 : 0 ≤ x8_3
                        · rw [if_pos c11] at H
                          have c11b0 : decide (0 ≤ x8_3) = true := decide_eq_true c11
                          clear c11
                          by_cases c13 : (bt (rdOf ByteArray.empty l0 x7_2) x8_3) < 97
                          · rw [if_pos c13] at H
                            have c13b0 : decide ((bt (rdOf ByteArray.empty l0 x7_2) x8_3) < 97) = true := decide_eq_true c13
                            clear c13
                            replace H := Option.bind_eq_some_iff.mp H
                            obtain ⟨t232, A140, H⟩ := H
                            replace H : (some t232) = some r := H
                            have A14 := Aside0.mk A140
                            clear A140
                            first
                              | exact absurd (show false = true from (Option.some.inj H).trans HRT_.out) (by decide)
                              | (skip
                                 obtain rfl := Option.some.inj H
                                 have p230 : 0 ≤ (x7_2 : Int) := of_decide_eq_true (by first | (with_reducible assumption) | assumption)
                                 have q230 : x7_2 < (l0.length : Int) := of_decide_eq_true (by first | (with_reducible assumption) | assumption)
                                 obtain ⟨ad230, e230, hx230_0⟩ := Kd.at_string HR0.out x7_2 p230 q230
                                 cases e230
                                 replace hx230_0 := (HB.out.cell (World.block_lt_of_cell? w _ hx230_0)).trans hx230_0
                                 replace p230 := eq_true p230
                                 replace q230 := eq_true q230
                                 have p231 : 0 ≤ (x7_2 : Int) := of_decide_eq_true (by first | (with_reducible assumption) | assumption)
                                 have q231 : x7_2 < (l0.length : Int) := of_decide_eq_true (by first | (with_reducible assumption) | assumption)
                                 obtain ⟨ad231, e231, hx231_0⟩ := Kd.at_string HR0.out x7_2 p231 q231
                                 obtain rfl : ad230 = ad231 := (by injection e231)
                                 replace hx231_0 := (HB.out.cell (World.block_lt_of_cell? w _ hx231_0)).trans hx231_0
                                 replace p231 := eq_true p231
                                 replace q231 := eq_true q231
                                 have p12 : 0 ≤ (x8_3 : Int) := of_decide_eq_true (by first | (with_reducible assumption) | assumption)
                                 have q12 : x8_3 < ((rdOf ByteArray.empty l0 x7_2).size : Int) := of_decide_eq_true (by first | (with_reducible assumption) | assumption)
                                 have hx12 := bt_at (rdOf ByteArray.empty l0 x7_2) x8_3
                                 replace p12 := eq_true p12
                                 replace q12 := eq_true q12
                                 go_wp2_with (first | (go_at_call 10; (with_reducible refine (pantrylaw22_known.calls k3  t232 _ A14.out).mono ?_); rintro e w15 ⟨rfl, hb⟩; have n0_ := Aside0.mk (below_step (by repeat (first | (with_reducible first | exact HB.out | apply below_alloc | apply pw_below_drewN | apply below_drew1) | exact HB.out)) hb); clear HB; have HB := n0_; clear n0_; (try clear hb); (try clear hb2); (try clear hk); (try clear hi)))
                                 repeat (go_quiet (first | (go_at_call 10; (with_reducible refine (pantrylaw22_known.calls k3  t232 _ A14.out).mono ?_); rintro e w15 ⟨rfl, hb⟩; have n0_ := Aside0.mk (below_step (by repeat (first | (with_reducible first | exact HB.out | apply below_alloc | apply pw_below_drewN | apply below_drew1) | exact HB.out)) hb); clear HB; have HB := n0_; clear n0_; (try clear hb); (try clear hb2); (try clear hk); (try clear hi))); try go_wp2_with (first | (go_at_call 10; (with_reducible refine (pantrylaw22_known.calls k3  t232 _ A14.out).mono ?_); rintro e w15 ⟨rfl, hb⟩; have n0_ := Aside0.mk (below_step (by repeat (first | (with_reducible first | exact HB.out | apply below_alloc | apply pw_below_drewN | apply below_drew1) | exact HB.out)) hb); clear HB; have HB := n0_; clear n0_; (try clear hb); (try clear hb2); (try clear hk); (try clear hi))))
                                 go_ret
                                 exact ⟨by first | rfl | (simp [errW_none, errW_some] <;> rfl) | (simp [*, errW_none, errW_some] <;> rfl), by repeat (first | (with_reducible first | exact HB.out | apply below_alloc | apply pw_below_drewN | apply below_drew1) | exact HB.out)⟩)
                          · rw [if_neg c13] at H
                            have c13b0 : decide ((bt (rdOf ByteArray.empty l0 x7_2) x8_3) < 97) = false := decide_eq_false c13
                            clear c13
                            by_cases c17 : (bt (rdOf ByteArray.empty l0 x7_2) x8_3) > 101
                            · rw [if_pos c17] at H
                              have c17b0 : decide (101 < (bt (rdOf ByteArray.empty l0 x7_2) x8_3)) = true := decide_eq_true c17
                              clear c17
                              replace H := Option.bind_eq_some_iff.mp H
                              obtain ⟨t234, A180, H⟩ := H
                              replace H : (some t234) = some r := H
                              have A18 := Aside0.mk A180
                              clear A180
                              first
                                | exact absurd (show false = true from (Option.some.inj H).trans HRT_.out) (by decide)
                                | (skip
                                   obtain rfl := Option.some.inj H
                                   have p230 : 0 ≤ (x7_2 : Int) := of_decide_eq_true (by first | (with_reducible assumption) | assumption)
                                   have q230 : x7_2 < (l0.length : Int) := of_decide_eq_true (by first | (with_reducible assumption) | assumption)
                                   obtain ⟨ad230, e230, hx230_0⟩ := Kd.at_string HR0.out x7_2 p230 q230
                                   cases e230
                                   replace hx230_0 := (HB.out.cell (World.block_lt_of_cell? w _ hx230_0)).trans hx230_0
                                   replace p230 := eq_true p230
                                   replace q230 := eq_true q230
                                   have p231 : 0 ≤ (x7_2 : Int) := of_decide_eq_true (by first | (with_reducible assumption) | assumption)
                                   have q231 : x7_2 < (l0.length : Int) := of_decide_eq_true (by first | (with_reducible assumption) | assumption)
                                   obtain ⟨ad231, e231, hx231_0⟩ := Kd.at_string HR0.out x7_2 p231 q231
                                   obtain rfl : ad230 = ad231 := (by injection e231)
                                   replace hx231_0 := (HB.out.cell (World.block_lt_of_cell? w _ hx231_0)).trans hx231_0
                                   replace p231 := eq_true p231
                                   replace q231 := eq_true q231
                                   have p12 : 0 ≤ (x8_3 : Int) := of_decide_eq_true (by first | (with_reducible assumption) | assumption)
                                   have q12 : x8_3 < ((rdOf ByteArray.empty l0 x7_2).size : Int) := of_decide_eq_true (by first | (with_reducible assumption) | assumption)
                                   have hx12 := bt_at (rdOf ByteArray.empty l0 x7_2) x8_3
                                   replace p12 := eq_true p12
                                   replace q12 := eq_true q12
                                   have p233 : 0 ≤ (x7_2 : Int) := of_decide_eq_true (by first | (with_reducible assumption) | assumption)
                                   have q233 : x7_2 < (l0.length : Int) := of_decide_eq_true (by first | (with_reducible assumption) | assumption)
                                   obtain ⟨ad233, e233, hx233_0⟩ := Kd.at_string HR0.out x7_2 p233 q233
                                   obtain rfl : ad230 = ad233 := (by injection e233)
                                   replace hx233_0 := (HB.out.cell (World.block_lt_of_cell? w _ hx233_0)).trans hx233_0
                                   replace p233 := eq_true p233
                                   replace q233 := eq_true q233
                                   have p16 : 0 ≤ (x8_3 : Int) := of_decide_eq_true (by first | (with_reducible assumption) | assumption)
                                   have q16 : x8_3 < ((rdOf ByteArray.empty l0 x7_2).size : Int) := of_decide_eq_true (by first | (with_reducible assumption) | assumption)
                                   have hx16 := bt_at (rdOf ByteArray.empty l0 x7_2) x8_3
                                   replace p16 := eq_true p16
                                   replace q16 := eq_true q16
                                   go_wp2_with (first | (go_at_call 10; (with_reducible refine (pantrylaw22_known.calls k3  t234 _ A18.out).mono ?_); rintro e w19 ⟨rfl, hb⟩; have n0_ := Aside0.mk (below_step (by repeat (first | (with_reducible first | exact HB.out | apply below_alloc | apply pw_below_drewN | apply below_drew1) | exact HB.out)) hb); clear HB; have HB := n0_; clear n0_; (try clear hb); (try clear hb2); (try clear hk); (try clear hi)))
                                   repeat (go_quiet (first | (go_at_call 10; (with_reducible refine (pantrylaw22_known.calls k3  t234 _ A18.out).mono ?_); rintro e w19 ⟨rfl, hb⟩; have n0_ := Aside0.mk (below_step (by repeat (first | (with_reducible first | exact HB.out | apply below_alloc | apply pw_below_drewN | apply below_drew1) | exact HB.out)) hb); clear HB; have HB := n0_; clear n0_; (try clear hb); (try clear hb2); (try clear hk); (try clear hi))); try go_wp2_with (first | (go_at_call 10; (with_reducible refine (pantrylaw22_known.calls k3  t234 _ A18.out).mono ?_); rintro e w19 ⟨rfl, hb⟩; have n0_ := Aside0.mk (below_step (by repeat (first | (with_reducible first | exact HB.out | apply below_alloc | apply pw_below_drewN | apply below_drew1) | exact HB.out)) hb); clear HB; have HB := n0_; clear n0_; (try clear hb); (try clear hb2); (try clear hk); (try clear hi))))
                                   go_ret
                                   exact ⟨by first | rfl | (simp [errW_none, errW_some] <;> rfl) | (simp [*, errW_none, errW_some] <;> rfl), by repeat (first | (with_reducible first | exact HB.out | apply below_alloc | apply pw_below_drewN | apply below_drew1) | exact HB.out)⟩)
                            · rw [if_neg c17] at H
                              have c17b0 : decide (101 < (bt (rdOf ByteArray.empty l0 x7_2) x8_3)) = false := decide_eq_false c17
                              clear c17
                              have H' := Aside0.mk H
                              clear H
                              have p230 : 0 ≤ (x7_2 : Int) := of_decide_eq_true (by first | (with_reducible assumption) | assumption)
                              have q230 : x7_2 < (l0.length : Int) := of_decide_eq_true (by first | (with_reducible assumption) | assumption)
                              obtain ⟨ad230, e230, hx230_0⟩ := Kd.at_string HR0.out x7_2 p230 q230
                              cases e230
                              replace hx230_0 := (HB.out.cell (World.block_lt_of_cell? w _ hx230_0)).trans hx230_0
                              replace p230 := eq_true p230
                              replace q230 := eq_true q230
                              have p231 : 0 ≤ (x7_2 : Int) := of_decide_eq_true (by first | (with_reducible assumption) | assumption)
                              have q231 : x7_2 < (l0.length : Int) := of_decide_eq_true (by first | (with_reducible assumption) | assumption)
                              obtain ⟨ad231, e231, hx231_0⟩ := Kd.at_string HR0.out x7_2 p231 q231
                              obtain rfl : ad230 = ad231 := (by injection e231)
                              replace hx231_0 := (HB.out.cell (World.block_lt_of_cell? w _ hx231_0)).trans hx231_0
                              replace p231 := eq_true p231
                              replace q231 := eq_true q231
                              have p12 : 0 ≤ (x8_3 : Int) := of_decide_eq_true (by first | (with_reducible assumption) | assumption)
                              have q12 : x8_3 < ((rdOf ByteArray.empty l0 x7_2).size : Int) := of_decide_eq_true (by first | (with_reducible assumption) | assumption)
                              have hx12 := bt_at (rdOf ByteArray.empty l0 x7_2) x8_3
                              replace p12 := eq_true p12
                              replace q12 := eq_true q12
                              have p233 : 0 ≤ (x7_2 : Int) := of_decide_eq_true (by first | (with_reducible assumption) | assumption)
                              have q233 : x7_2 < (l0.length : Int) := of_decide_eq_true (by first | (with_reducible assumption) | assumption)
                              obtain ⟨ad233, e233, hx233_0⟩ := Kd.at_string HR0.out x7_2 p233 q233
                              obtain rfl : ad230 = ad233 := (by injection e233)
                              replace hx233_0 := (HB.out.cell (World.block_lt_of_cell? w _ hx233_0)).trans hx233_0
                              replace p233 := eq_true p233
                              replace q233 := eq_true q233
                              have p16 : 0 ≤ (x8_3 : Int) := of_decide_eq_true (by first | (with_reducible assumption) | assumption)
                              have q16 : x8_3 < ((rdOf ByteArray.empty l0 x7_2).size : Int) := of_decide_eq_true (by first | (with_reducible assumption) | assumption)
                              have hx16 := bt_at (rdOf ByteArray.empty l0 x7_2) x8_3
                              replace p16 := eq_true p16
                              replace q16 := eq_true q16
                              go_wp2
                              repeat (go_quiet (fail); try go_wp2)
                              go_roundg k3
                              case measure => have := HJ2.out; have := HK2.out; have := HK3.out; omega
                              case rel => exact ⟨(wrap64 (x8_3 + 1)), (by first | rfl | (simp; done) | (simp [*]; done)), H', ⟨by have := HJ2.out; have := HK2.out; have := HK3.out; omega⟩, ⟨by repeat (first | (with_reducible first | exact HB.out | apply below_alloc | apply pw_below_drewN | apply below_drew1) | exact HB.out)⟩⟩
                        · rw [if_neg c11] at H
                          exact absurd H (by simp)
                      · rw [if_neg c10] at H
                        have c10b0 : decide (x8_3 < ((rdOf ByteArray.empty l0 x7_2).size : Int)) = false := decide_eq_false c10
                        clear c10
                        by_cases c20 : (rdOf ByteArray.empty l0 x7_2).toList = ([] : List UInt8)
                        · rw [if_pos c20] at H
                          have c20b0 : ((rdOf ByteArray.empty l0 x7_2).toList == ([] : List UInt8)) = true := beq_iff_eq.mpr c20
                          have c20b1 : ((rdOf ByteArray.empty l0 x7_2).toList != ([] : List UInt8)) = false := bne_eq_false_iff_eq.mpr c20
                          clear c20
                          replace H := Option.bind_eq_some_iff.mp H
                          obtain ⟨t236, A210, H⟩ := H
                          replace H : (some t236) = some r := H
                          have A21 := Aside0.mk A210
                          clear A210
                          first
                            | exact absurd (show false = true from (Option.some.inj H).trans HRT_.out) (by decide)
                            | (skip
                               obtain rfl := Option.some.inj H
                               have p230 : 0 ≤ (x7_2 : Int) := of_decide_eq_true (by first | (with_reducible assumption) | assumption)
                               have q230 : x7_2 < (l0.length : Int) := of_decide_eq_true (by first | (with_reducible assumption) | assumption)
                               obtain ⟨ad230, e230, hx230_0⟩ := Kd.at_string HR0.out x7_2 p230 q230
                               cases e230
                               replace hx230_0 := (HB.out.cell (World.block_lt_of_cell? w _ hx230_0)).trans hx230_0
                               replace p230 := eq_true p230
                               replace q230 := eq_true q230
                               have p235 : 0 ≤ (x7_2 : Int) := of_decide_eq_true (by first | (with_reducible assumption) | assumption)
                               have q235 : x7_2 < (l0.length : Int) := of_decide_eq_true (by first | (with_reducible assumption) | assumption)
                               obtain ⟨ad235, e235, hx235_0⟩ := Kd.at_string HR0.out x7_2 p235 q235
                               obtain rfl : ad230 = ad235 := (by injection e235)
                               replace hx235_0 := (HB.out.cell (World.block_lt_of_cell? w _ hx235_0)).trans hx235_0
                               replace p235 := eq_true p235
                               replace q235 := eq_true q235
                               go_wp2_with (first | (go_at_call 10; (with_reducible refine (pantrylaw22_known.calls k3  t236 _ A21.out).mono ?_); rintro e w22 ⟨rfl, hb⟩; have n0_ := Aside0.mk (below_step (by repeat (first | (with_reducible first | exact HB.out | apply below_alloc | apply pw_below_drewN | apply below_drew1) | exact HB.out)) hb); clear HB; have HB := n0_; clear n0_; (try clear hb); (try clear hb2); (try clear hk); (try clear hi)))
                               repeat (go_quiet (first | (go_at_call 10; (with_reducible refine (pantrylaw22_known.calls k3  t236 _ A21.out).mono ?_); rintro e w22 ⟨rfl, hb⟩; have n0_ := Aside0.mk (below_step (by repeat (first | (with_reducible first | exact HB.out | apply below_alloc | apply pw_below_drewN | apply below_drew1) | exact HB.out)) hb); clear HB; have HB := n0_; clear n0_; (try clear hb); (try clear hb2); (try clear hk); (try clear hi))); try go_wp2_with (first | (go_at_call 10; (with_reducible refine (pantrylaw22_known.calls k3  t236 _ A21.out).mono ?_); rintro e w22 ⟨rfl, hb⟩; have n0_ := Aside0.mk (below_step (by repeat (first | (with_reducible first | exact HB.out | apply below_alloc | apply pw_below_drewN | apply below_drew1) | exact HB.out)) hb); clear HB; have HB := n0_; clear n0_; (try clear hb); (try clear hb2); (try clear hk); (try clear hi))))
                               go_ret
                               exact ⟨by first | rfl | (simp [errW_none, errW_some] <;> rfl) | (simp [*, errW_none, errW_some] <;> rfl), by repeat (first | (with_reducible first | exact HB.out | apply below_alloc | apply pw_below_drewN | apply below_drew1) | exact HB.out)⟩)
                        · rw [if_neg c20] at H
                          have c20b0 : ((rdOf ByteArray.empty l0 x7_2).toList == ([] : List UInt8)) = false := beq_eq_false_iff_ne.mpr c20
                          have c20b1 : ((rdOf ByteArray.empty l0 x7_2).toList != ([] : List UInt8)) = true := bne_iff_ne.mpr c20
                          by_cases c23 : ((rdOf ByteArray.empty l0 x7_2).size : Int) > 50
                          · rw [if_pos c23] at H
                            have c23b0 : decide (50 < ((rdOf ByteArray.empty l0 x7_2).size : Int)) = true := decide_eq_true c23
                            have c23b1 : decide (50 < (rdOf ByteArray.empty l0 x7_2).size) = true := decide_eq_true (by omega)
                            clear c23
                            replace H := Option.bind_eq_some_iff.mp H
                            obtain ⟨t238, A240, H⟩ := H
                            replace H : (some t238) = some r := H
                            have A24 := Aside0.mk A240
                            clear A240
                            first
                              | exact absurd (show false = true from (Option.some.inj H).trans HRT_.out) (by decide)
                              | (skip
                                 obtain rfl := Option.some.inj H
                                 have p230 : 0 ≤ (x7_2 : Int) := of_decide_eq_true (by first | (with_reducible assumption) | assumption)
                                 have q230 : x7_2 < (l0.length : Int) := of_decide_eq_true (by first | (with_reducible assumption) | assumption)
                                 obtain ⟨ad230, e230, hx230_0⟩ := Kd.at_string HR0.out x7_2 p230 q230
                                 cases e230
                                 replace hx230_0 := (HB.out.cell (World.block_lt_of_cell? w _ hx230_0)).trans hx230_0
                                 replace p230 := eq_true p230
                                 replace q230 := eq_true q230
                                 have p235 : 0 ≤ (x7_2 : Int) := of_decide_eq_true (by first | (with_reducible assumption) | assumption)
                                 have q235 : x7_2 < (l0.length : Int) := of_decide_eq_true (by first | (with_reducible assumption) | assumption)
                                 obtain ⟨ad235, e235, hx235_0⟩ := Kd.at_string HR0.out x7_2 p235 q235
                                 obtain rfl : ad230 = ad235 := (by injection e235)
                                 replace hx235_0 := (HB.out.cell (World.block_lt_of_cell? w _ hx235_0)).trans hx235_0
                                 replace p235 := eq_true p235
                                 replace q235 := eq_true q235
                                 have p237 : 0 ≤ (x7_2 : Int) := of_decide_eq_true (by first | (with_reducible assumption) | assumption)
                                 have q237 : x7_2 < (l0.length : Int) := of_decide_eq_true (by first | (with_reducible assumption) | assumption)
                                 obtain ⟨ad237, e237, hx237_0⟩ := Kd.at_string HR0.out x7_2 p237 q237
                                 obtain rfl : ad230 = ad237 := (by injection e237)
                                 replace hx237_0 := (HB.out.cell (World.block_lt_of_cell? w _ hx237_0)).trans hx237_0
                                 replace p237 := eq_true p237
                                 replace q237 := eq_true q237
                                 go_wp2_with (first | (go_at_call 10; (with_reducible refine (pantrylaw22_known.calls k3  t238 _ A24.out).mono ?_); rintro e w25 ⟨rfl, hb⟩; have n0_ := Aside0.mk (below_step (by repeat (first | (with_reducible first | exact HB.out | apply below_alloc | apply pw_below_drewN | apply below_drew1) | exact HB.out)) hb); clear HB; have HB := n0_; clear n0_; (try clear hb); (try clear hb2); (try clear hk); (try clear hi)))
                                 repeat (go_quiet (first | (go_at_call 10; (with_reducible refine (pantrylaw22_known.calls k3  t238 _ A24.out).mono ?_); rintro e w25 ⟨rfl, hb⟩; have n0_ := Aside0.mk (below_step (by repeat (first | (with_reducible first | exact HB.out | apply below_alloc | apply pw_below_drewN | apply below_drew1) | exact HB.out)) hb); clear HB; have HB := n0_; clear n0_; (try clear hb); (try clear hb2); (try clear hk); (try clear hi))); try go_wp2_with (first | (go_at_call 10; (with_reducible refine (pantrylaw22_known.calls k3  t238 _ A24.out).mono ?_); rintro e w25 ⟨rfl, hb⟩; have n0_ := Aside0.mk (below_step (by repeat (first | (with_reducible first | exact HB.out | apply below_alloc | apply pw_below_drewN | apply below_drew1) | exact HB.out)) hb); clear HB; have HB := n0_; clear n0_; (try clear hb); (try clear hb2); (try clear hk); (try clear hi))))
                                 go_ret
                                 exact ⟨by first | rfl | (simp [errW_none, errW_some] <;> rfl) | (simp [*, errW_none, errW_some] <;> rfl), by repeat (first | (with_reducible first | exact HB.out | apply below_alloc | apply pw_below_drewN | apply below_drew1) | exact HB.out)⟩)
                          · rw [if_neg c23] at H
                            have c23b0 : decide (50 < ((rdOf ByteArray.empty l0 x7_2).size : Int)) = false := decide_eq_false c23
                            have c23b1 : decide (50 < (rdOf ByteArray.empty l0 x7_2).size) = false := decide_eq_false (by omega)
                            clear c23
                            by_cases c26 : x5_2.size + 3 ≤ 9223372036854775807
                            · rw [if_pos c26] at H
                              have c26b0 := eq_true c26
                              have c26b1 : decide (x5_2.size + 3 ≤ 9223372036854775807) = true := decide_eq_true c26
                              try have c26b2 : (9223372036854775807 < x5_2.size + 3) = False := eq_false (Nat.not_lt.2 c26)
                              by_cases c27 : (x5_2 ++ (⟨#[112, 36, 123]⟩ : ByteArray)).size + (rdOf ByteArray.empty l0 x7_2).size ≤ 9223372036854775807
                              · rw [if_pos c27] at H
                                have c27b0 := eq_true c27
                                have c27b1 : decide ((x5_2 ++ (⟨#[112, 36, 123]⟩ : ByteArray)).size + (rdOf ByteArray.empty l0 x7_2).size ≤ 9223372036854775807) = true := decide_eq_true c27
                                try have c27b2 : (9223372036854775807 < (x5_2 ++ (⟨#[112, 36, 123]⟩ : ByteArray)).size + (rdOf ByteArray.empty l0 x7_2).size) = False := eq_false (Nat.not_lt.2 c27)
                                try (have c27b9 := c27b2; simp only [ByteArray.size_append, show ByteArray.size (⟨#[112, 36, 123]⟩ : ByteArray) = 3 from rfl] at c27b9)
                                by_cases c28 : ((x5_2 ++ (⟨#[112, 36, 123]⟩ : ByteArray)) ++ (rdOf ByteArray.empty l0 x7_2)).size + 2 ≤ 9223372036854775807
                                · rw [if_pos c28] at H
                                  have c28b0 := eq_true c28
                                  have c28b1 : decide (((x5_2 ++ (⟨#[112, 36, 123]⟩ : ByteArray)) ++ (rdOf ByteArray.empty l0 x7_2)).size + 2 ≤ 9223372036854775807) = true := decide_eq_true c28
                                  try have c28b2 : (9223372036854775807 < ((x5_2 ++ (⟨#[112, 36, 123]⟩ : ByteArray)) ++ (rdOf ByteArray.empty l0 x7_2)).size + 2) = False := eq_false (Nat.not_lt.2 c28)
                                  try (have c28b9 := c28b2; simp only [ByteArray.size_append, show ByteArray.size (⟨#[112, 36, 123]⟩ : ByteArray) = 3 from rfl] at c28b9)
                                  have H' := Aside0.mk H
                                  clear H
                                  have p230 : 0 ≤ (x7_2 : Int) := of_decide_eq_true (by first | (with_reducible assumption) | assumption)
                                  have q230 : x7_2 < (l0.length : Int) := of_decide_eq_true (by first | (with_reducible assumption) | assumption)
                                  obtain ⟨ad230, e230, hx230_0⟩ := Kd.at_string HR0.out x7_2 p230 q230
                                  cases e230
                                  replace hx230_0 := (HB.out.cell (World.block_lt_of_cell? w _ hx230_0)).trans hx230_0
                                  replace p230 := eq_true p230
                                  replace q230 := eq_true q230
                                  have p235 : 0 ≤ (x7_2 : Int) := of_decide_eq_true (by first | (with_reducible assumption) | assumption)
                                  have q235 : x7_2 < (l0.length : Int) := of_decide_eq_true (by first | (with_reducible assumption) | assumption)
                                  obtain ⟨ad235, e235, hx235_0⟩ := Kd.at_string HR0.out x7_2 p235 q235
                                  obtain rfl : ad230 = ad235 := (by injection e235)
                                  replace hx235_0 := (HB.out.cell (World.block_lt_of_cell? w _ hx235_0)).trans hx235_0
                                  replace p235 := eq_true p235
                                  replace q235 := eq_true q235
                                  have p237 : 0 ≤ (x7_2 : Int) := of_decide_eq_true (by first | (with_reducible assumption) | assumption)
                                  have q237 : x7_2 < (l0.length : Int) := of_decide_eq_true (by first | (with_reducible assumption) | assumption)
                                  obtain ⟨ad237, e237, hx237_0⟩ := Kd.at_string HR0.out x7_2 p237 q237
                                  obtain rfl : ad230 = ad237 := (by injection e237)
                                  replace hx237_0 := (HB.out.cell (World.block_lt_of_cell? w _ hx237_0)).trans hx237_0
                                  replace p237 := eq_true p237
                                  replace q237 := eq_true q237
                                  have p239 : 0 ≤ (x7_2 : Int) := of_decide_eq_true (by first | (with_reducible assumption) | assumption)
                                  have q239 : x7_2 < (l0.length : Int) := of_decide_eq_true (by first | (with_reducible assumption) | assumption)
                                  obtain ⟨ad239, e239, hx239_0⟩ := Kd.at_string HR0.out x7_2 p239 q239
                                  obtain rfl : ad230 = ad239 := (by injection e239)
                                  replace hx239_0 := (HB.out.cell (World.block_lt_of_cell? w _ hx239_0)).trans hx239_0
                                  replace p239 := eq_true p239
                                  replace q239 := eq_true q239
                                  go_wp2
                                  repeat (go_quiet (fail); try go_wp2)
                                  go_roundg k3
                                  case measure => have := HJ2.out; have := HK2.out; have := HK3.out; omega
                                  case rel => exact ⟨(((x5_2 ++ (⟨#[112, 36, 123]⟩ : ByteArray)) ++ (rdOf ByteArray.empty l0 x7_2)) ++ (⟨#[120, 125]⟩ : ByteArray)), (wrap64 (x6_2 + 4)), (wrap64 (x7_2 + 1)), (by first | rfl | (simp; done) | (simp [*]; done)), (by first | rfl | (simp; done) | (simp [*]; done)), (by first | rfl | (simp; done) | (simp [*]; done)), H', ⟨by have := HJ2.out; have := HK2.out; have := HK3.out; omega⟩, ⟨by repeat (first | (with_reducible first | exact HB.out | apply below_alloc | apply pw_below_drewN | apply below_drew1) | exact HB.out)⟩⟩
                                · rw [if_neg c28] at H
                                  exact absurd H (by simp)
                              · rw [if_neg c27] at H
                                exact absurd H (by simp)
                            · rw [if_neg c26] at H
                              exact absurd H (by simp)
                    · rw [if_neg c9] at H
                      exact absurd H (by simp)
                  · rw [if_neg c8] at H
                    exact absurd H (by simp)
            · rw [if_neg c7] at H
              have c7b0 : decide (x7_2 < (l0.length : Int)) = false := decide_eq_false c7
              clear c7
              by_cases c29 : x5_2.size + 1 ≤ 9223372036854775807
              · rw [if_pos c29] at H
                have c29b0 := eq_true c29
                have c29b1 : decide (x5_2.size + 1 ≤ 9223372036854775807) = true := decide_eq_true c29
                try have c29b2 : (9223372036854775807 < x5_2.size + 1) = False := eq_false (Nat.not_lt.2 c29)
                replace H := Option.bind_eq_some_iff.mp H
                obtain ⟨⟨t240, t241, t242⟩, A300, H⟩ := H
                replace H : (if t242 = 0 then (if (t240.length : Int) = (wrap64 (x6_2 + 1)) then (if 0 < (t240.length : Int) then (if ((rd_T28 t240 0).f0) = 5 then (if 0 ≤ (wrap64 (x6_2 - 1)) then (if (wrap64 (x6_2 - 1)) < (t240.length : Int) then (pantrylaw22_LexHoles.j3 k2 l0 t240 (((rd_T28 t240 (wrap64 (x6_2 - 1))).f0) != 8)) else (none)) else (none)) else (pantrylaw22_LexHoles.j3 k2 l0 t240 true)) else (none)) else (pantrylaw22_LexHoles.j3 k2 l0 t240 true)) else (pantrylaw22_LexHoles.j3 k2 l0 t240 true)) = some r := H
                have A30 := Aside0.mk A300
                clear A300
                have HC31 := Aside0.mk H
                clear H
                go_upto_region 18 with (first | (go_at_call 9; (with_reducible refine (lex_Lex.calls (x5_2 ++ (⟨#[34]⟩ : ByteArray)) t240 t241 t242 _ A30.out).mono ?_); rintro e w32 ⟨v243, rfl, ho0, hb⟩; have n0_ := Aside0.mk (Kd.R_lower ho0 (below_size (by repeat (first | (with_reducible first | exact HB.out | apply below_alloc | apply pw_below_drewN | apply below_drew1) | exact HB.out)))); have n1_ := Aside0.mk (below_step (by repeat (first | (with_reducible first | exact HB.out | apply below_alloc | apply pw_below_drewN | apply below_drew1) | exact HB.out)) hb); clear HB; have HO244 := n0_; have HB := n1_; clear n0_ n1_; (try clear hb); (try clear hb2); (try clear hk); (try clear hi); (try clear ho0)))
                repeat (go_quiet (first | (go_at_call 9; (with_reducible refine (lex_Lex.calls (x5_2 ++ (⟨#[34]⟩ : ByteArray)) t240 t241 t242 _ A30.out).mono ?_); rintro e w32 ⟨v243, rfl, ho0, hb⟩; have n0_ := Aside0.mk (Kd.R_lower ho0 (below_size (by repeat (first | (with_reducible first | exact HB.out | apply below_alloc | apply pw_below_drewN | apply below_drew1) | exact HB.out)))); have n1_ := Aside0.mk (below_step (by repeat (first | (with_reducible first | exact HB.out | apply below_alloc | apply pw_below_drewN | apply below_drew1) | exact HB.out)) hb); clear HB; have HO244 := n0_; have HB := n1_; clear n0_ n1_; (try clear hb); (try clear hb2); (try clear hk); (try clear hi); (try clear ho0))); go_upto_region 18 with (first | (go_at_call 9; (with_reducible refine (lex_Lex.calls (x5_2 ++ (⟨#[34]⟩ : ByteArray)) t240 t241 t242 _ A30.out).mono ?_); rintro e w32 ⟨v243, rfl, ho0, hb⟩; have n0_ := Aside0.mk (Kd.R_lower ho0 (below_size (by repeat (first | (with_reducible first | exact HB.out | apply below_alloc | apply pw_below_drewN | apply below_drew1) | exact HB.out)))); have n1_ := Aside0.mk (below_step (by repeat (first | (with_reducible first | exact HB.out | apply below_alloc | apply pw_below_drewN | apply below_drew1) | exact HB.out)) hb); clear HB; have HO244 := n0_; have HB := n1_; clear n0_ n1_; (try clear hb); (try clear hb2); (try clear hk); (try clear hi); (try clear ho0))))
                (try simp only [Act.put, List.setIfInBounds_toArray, List.set_cons_zero, List.set_cons_succ])
                go_cut [112] (fun v112 wc => ∃ (kq : Nat) (x112_30 : Bool), v112 = .bool x112_30 ∧ Aside0 (pantrylaw22_LexHoles.j3 kq l0 t240 x112_30 = some r) ∧ Aside0 (kq ≤ k2) ∧ Aside0 (Kd.R k28 28 wc w.heap.size (fun _ => True) v243 t240) ∧ Aside0 (Below w.heap.size w wc))
                case first =>
                  have H := HC31.out
                  clear HC31
                  by_cases c33 : t242 = 0
                  · rw [if_pos c33] at H
                    have c33b0 : (t242 == 0) = true := beq_iff_eq.mpr c33
                    have c33b1 : (t242 != 0) = false := bne_eq_false_iff_eq.mpr c33
                    clear c33
                    (first | rw [c33b0] | (simp only [i64_w, i32_w]; rw [c33b0]) | skip)
                    by_cases c34 : (t240.length : Int) = (wrap64 (x6_2 + 1))
                    · rw [if_pos c34] at H
                      have c34b0 : ((t240.length : Int) == (wrap64 (x6_2 + 1))) = true := beq_iff_eq.mpr c34
                      have c34b1 : ((t240.length : Int) != (wrap64 (x6_2 + 1))) = false := bne_eq_false_iff_eq.mpr c34
                      clear c34
                      by_cases c35 : 0 < (t240.length : Int)
                      · rw [if_pos c35] at H
                        have c35b0 : decide (0 < (t240.length : Int)) = true := decide_eq_true c35
                        have c35b1 : decide (0 < t240.length) = true := decide_eq_true (by omega)
                        clear c35
                        by_cases c36 : ((rd_T28 t240 0).f0) = 5
                        · rw [if_pos c36] at H
                          have c36b0 : (((rd_T28 t240 0).f0) == 5) = true := beq_iff_eq.mpr c36
                          have c36b1 : (((rd_T28 t240 0).f0) != 5) = false := bne_eq_false_iff_eq.mpr c36
                          clear c36
                          obtain ⟨ji37, hji37⟩ : ∃ j_ : Int, (wrap64 (x6_2 - 1)) = j_ := ⟨_, rfl⟩
                          replace H : (if 0 ≤ (ji37) then (if (ji37) < (t240.length : Int) then (pantrylaw22_LexHoles.j3 k2 l0 t240 (((rd_T28 t240 (ji37)).f0) != 8)) else (none)) else (none)) = some r := by first | (rw [hji37] at H; exact H) | (simp only [hji37] at H ⊢; exact H)
                          have hji37w : (IntKind.i64.wrap (x6_2 - 1)) = ji37 := (i64_w _).trans hji37
                          by_cases c38 : 0 ≤ (ji37)
                          · rw [if_pos c38] at H
                            have c38b0 : decide (0 ≤ (ji37)) = true := decide_eq_true c38
                            clear c38
                            by_cases c39 : (ji37) < (t240.length : Int)
                            · rw [if_pos c39] at H
                              have c39b0 : decide ((ji37) < (t240.length : Int)) = true := decide_eq_true c39
                              clear c39
                              have H' := Aside0.mk H
                              clear H
                              obtain ⟨Ao40, co40, eo40⟩ := Kd.R_slice HO244.out
                              subst eo40
                              have p245 : 0 ≤ (0 : Int) := (by omega)
                              have q245 : 0 < (t240.length : Int) := of_decide_eq_true (by first | (with_reducible assumption) | assumption)
                              obtain ⟨ad245, e245, hx245_0, hx245_1, hx245_2⟩ := at_T28 (Kd.R_reads' HO244.out).2.2 0 p245 q245
                              cases e245
                              have qi245 : (0 < t240.length) = True := eq_true (by omega)
                              (try rw [show ((0 : Int)).toNat = 0 from rfl] at hx245_0)
                              (try rw [show 0 * 3 = 0 from rfl] at hx245_0)
                              (try rw [Addr.add_zero'] at hx245_0)
                              (try rw [show ((0 : Int)).toNat = 0 from rfl] at hx245_1)
                              (try rw [show 0 * 3 = 0 from rfl] at hx245_1)
                              (try rw [Addr.add_zero'] at hx245_1)
                              (try rw [show ((0 : Int)).toNat = 0 from rfl] at hx245_2)
                              (try rw [show 0 * 3 = 0 from rfl] at hx245_2)
                              (try rw [Addr.add_zero'] at hx245_2)
                              replace p245 := eq_true p245
                              replace q245 := eq_true q245
                              have p246 : 0 ≤ ((ji37) : Int) := of_decide_eq_true (by first | (with_reducible assumption) | assumption)
                              have q246 : (ji37) < (t240.length : Int) := of_decide_eq_true (by first | (with_reducible assumption) | assumption)
                              obtain ⟨ad246, e246, hx246_0, hx246_1, hx246_2⟩ := at_T28 (Kd.R_reads' HO244.out).2.2 (ji37) p246 q246
                              obtain rfl : ad245 = ad246 := (by injection e246)
                              replace p246 := eq_true p246
                              replace q246 := eq_true q246
                              go_wp2
                              repeat (go_quiet (fail); try go_wp2)
                              go_meet
                              case rel => exact ⟨_, ((((rd_T28 t240 (ji37)).f0) != 8)), (by first | rfl | (simp; done) | (simp only [← hji37] <;> (first | rfl | simp)) | (simp [*]; done)), H', ⟨by have := HJ2.out; have := HK2.out; first | omega | exact Nat.le_refl _⟩, ⟨by (with_reducible repeat (first | apply Kd.R_alloc | apply Kd.R_drewN | apply Kd.R_drew)); exact HO244.out⟩, ⟨by repeat (first | (with_reducible first | exact HB.out | apply below_alloc | apply pw_below_drewN | apply below_drew1) | exact HB.out)⟩⟩
                            · rw [if_neg c39] at H
                              exact absurd H (by simp)
                          · rw [if_neg c38] at H
                            exact absurd H (by simp)
                        · rw [if_neg c36] at H
                          have c36b0 : (((rd_T28 t240 0).f0) == 5) = false := beq_eq_false_iff_ne.mpr c36
                          have c36b1 : (((rd_T28 t240 0).f0) != 5) = true := bne_iff_ne.mpr c36
                          have H' := Aside0.mk H
                          clear H
                          obtain ⟨Ao41, co41, eo41⟩ := Kd.R_slice HO244.out
                          subst eo41
                          have p245 : 0 ≤ (0 : Int) := (by omega)
                          have q245 : 0 < (t240.length : Int) := of_decide_eq_true (by first | (with_reducible assumption) | assumption)
                          obtain ⟨ad245, e245, hx245_0, hx245_1, hx245_2⟩ := at_T28 (Kd.R_reads' HO244.out).2.2 0 p245 q245
                          cases e245
                          have qi245 : (0 < t240.length) = True := eq_true (by omega)
                          (try rw [show ((0 : Int)).toNat = 0 from rfl] at hx245_0)
                          (try rw [show 0 * 3 = 0 from rfl] at hx245_0)
                          (try rw [Addr.add_zero'] at hx245_0)
                          (try rw [show ((0 : Int)).toNat = 0 from rfl] at hx245_1)
                          (try rw [show 0 * 3 = 0 from rfl] at hx245_1)
                          (try rw [Addr.add_zero'] at hx245_1)
                          (try rw [show ((0 : Int)).toNat = 0 from rfl] at hx245_2)
                          (try rw [show 0 * 3 = 0 from rfl] at hx245_2)
                          (try rw [Addr.add_zero'] at hx245_2)
                          replace p245 := eq_true p245
                          replace q245 := eq_true q245
                          go_wp2
                          repeat (go_quiet (fail); try go_wp2)
                          go_meet
                          case rel => exact ⟨_, (true), (by first | rfl | (simp; done) | (simp [*]; done)), H', ⟨by have := HJ2.out; have := HK2.out; first | omega | exact Nat.le_refl _⟩, ⟨by (with_reducible repeat (first | apply Kd.R_alloc | apply Kd.R_drewN | apply Kd.R_drew)); exact HO244.out⟩, ⟨by repeat (first | (with_reducible first | exact HB.out | apply below_alloc | apply pw_below_drewN | apply below_drew1) | exact HB.out)⟩⟩
                      · rw [if_neg c35] at H
                        exact absurd H (by simp)
                    · rw [if_neg c34] at H
                      have c34b0 : ((t240.length : Int) == (wrap64 (x6_2 + 1))) = false := beq_eq_false_iff_ne.mpr c34
                      have c34b1 : ((t240.length : Int) != (wrap64 (x6_2 + 1))) = true := bne_iff_ne.mpr c34
                      have H' := Aside0.mk H
                      clear H
                      obtain ⟨Ao42, co42, eo42⟩ := Kd.R_slice HO244.out
                      subst eo42
                      go_wp2
                      repeat (go_quiet (fail); try go_wp2)
                      go_meet
                      case rel => exact ⟨_, (true), (by first | rfl | (simp; done) | (simp [*]; done)), H', ⟨by have := HJ2.out; have := HK2.out; first | omega | exact Nat.le_refl _⟩, ⟨by (with_reducible repeat (first | apply Kd.R_alloc | apply Kd.R_drewN | apply Kd.R_drew)); exact HO244.out⟩, ⟨by repeat (first | (with_reducible first | exact HB.out | apply below_alloc | apply pw_below_drewN | apply below_drew1) | exact HB.out)⟩⟩
                  · rw [if_neg c33] at H
                    have c33b0 : (t242 == 0) = false := beq_eq_false_iff_ne.mpr c33
                    have c33b1 : (t242 != 0) = true := bne_iff_ne.mpr c33
                    (first | rw [c33b0] | (simp only [i64_w, i32_w]; rw [c33b0]) | skip)
                    have H' := Aside0.mk H
                    clear H
                    go_wp2
                    repeat (go_quiet (fail); try go_wp2)
                    go_meet
                    case rel => exact ⟨_, (true), (by first | rfl | (simp; done) | (simp [*]; done)), H', ⟨by have := HJ2.out; have := HK2.out; first | omega | exact Nat.le_refl _⟩, ⟨by (with_reducible repeat (first | apply Kd.R_alloc | apply Kd.R_drewN | apply Kd.R_drew)); exact HO244.out⟩, ⟨by repeat (first | (with_reducible first | exact HB.out | apply below_alloc | apply pw_below_drewN | apply below_drew1) | exact HB.out)⟩⟩
                case rest =>
                  clear HC31
                  try clear c1
                  try clear p1
                  try clear q1
                  try clear hx1
                  try clear c2
                  try clear p2
                  try clear q2
                  try clear hx2
                  try clear qi2
                  try clear c3
                  try clear c4
                  try clear c4b0
                  try clear c4b1
                  try clear c5
                  try clear c5b0
                  try clear c6
                  try clear p6
                  try clear c7
                  try clear c7b0
                  try clear c8
                  try clear c8b0
                  try clear c9
                  try clear c9b0
                  try clear c10
                  try clear c10b0
                  try clear c11
                  try clear c11b0
                  try clear p12
                  try clear q12
                  try clear hx12
                  try clear c13
                  try clear c13b0
                  try clear p16
                  try clear q16
                  try clear hx16
                  try clear c17
                  try clear c17b0
                  try clear c20
                  try clear c20b0
                  try clear c20b1
                  try clear c23
                  try clear c23b0
                  try clear c23b1
                  try clear p23
                  try clear q23
                  try clear hx23
                  try clear p24
                  try clear q24
                  try clear hx24
                  try clear qi24
                  try clear c26
                  try clear c26b0
                  try clear c26b1
                  try clear c26b2
                  try clear c27
                  try clear c27b0
                  try clear c27b1
                  try clear c27b2
                  try clear c28
                  try clear c28b0
                  try clear c28b1
                  try clear c28b2
                  try clear c29
                  try clear c29b0
                  try clear c29b1
                  try clear c29b2
                  try clear c33
                  try clear c33b0
                  try clear c33b1
                  try clear c34
                  try clear c34b0
                  try clear c34b1
                  try clear c35
                  try clear c35b0
                  try clear c35b1
                  try clear c36
                  try clear c36b0
                  try clear c36b1
                  try clear c38
                  try clear c38b0
                  try clear c39
                  try clear c39b0
                  try clear hx230_0
                  try clear hx231_0
                  try clear hx233_0
                  try clear hx235_0
                  try clear hx237_0
                  try clear hx239_0
                  try clear hx245_0
                  try clear hx245_1
                  try clear hx245_2
                  try clear hx246_0
                  try clear hx246_1
                  try clear hx246_2
                  try clear p12
                  try clear p16
                  try clear p2
                  try clear p230
                  try clear p231
                  try clear p233
                  try clear p235
                  try clear p237
                  try clear p239
                  try clear p245
                  try clear p246
                  try clear q12
                  try clear q16
                  try clear q230
                  try clear q231
                  try clear q233
                  try clear q235
                  try clear q237
                  try clear q239
                  try clear q245
                  try clear q246
                  obtain ⟨kq, x112_30, rfl, HA, HJ30, HO_9, HB⟩ := hcut
                  cases kq with
                  | zero => exact absurd HA.out (by simp [pantrylaw22_LexHoles.j3])
                  | succ kj30 =>
                    have H := HA.out
                    clear HA
                    simp only [pantrylaw22_LexHoles.j3] at H
                    by_cases c43 : x112_30 = true
                    · subst c43
                      have H1 : (some false) = some r := by rw [if_pos rfl] at H; exact H
                      clear H
                      have H := H1
                      clear H1
                      first
                        | exact absurd (show false = true from (Option.some.inj H).trans HRT_.out) (by decide)
                        | (skip
                           obtain rfl := Option.some.inj H
                           go_wp2
                           repeat (go_quiet (fail); try go_wp2)
                           go_ret
                           exact ⟨by first | rfl | (simp [errW_none, errW_some] <;> rfl) | (simp [*, errW_none, errW_some] <;> rfl), by repeat (first | (with_reducible first | exact HB.out | apply below_alloc | apply pw_below_drewN | apply below_drew1) | exact HB.out)⟩)
                    · replace c43 := Bool.eq_false_iff.mpr c43
                      subst c43
                      have H1 : (pantrylaw22_LexHoles.l2 kj30 l0 t240 0) = some r := by rw [if_neg (show ¬ (false = true) by decide)] at H; exact H
                      clear H
                      have H := H1
                      clear H1
                      have H' := Aside0.mk H
                      clear H
                      go_wp2
                      repeat (go_quiet (fail); try go_wp2)
                      go_loopg [12] kj30 (fun kq v12 w' => ∃ (x12_4 : Int), v12 = .int .i64 x12_4 ∧ Aside0 (pantrylaw22_LexHoles.l2 kq l0 t240 x12_4 = some r) ∧ Aside0 (kq ≤ kj30) ∧ Aside0 (Kd.R k28 28 w' w.heap.size (fun _ => True) v243 t240) ∧ Aside0 (Below w.heap.size w w'))
                      case atStart => exact ⟨(0), (by first | rfl | (simp; done) | (simp [*]; done)), H', ⟨Nat.le_refl _⟩, ⟨by (with_reducible repeat (first | apply Kd.R_alloc | apply Kd.R_drewN | apply Kd.R_drew)); exact HO_9.out⟩, ⟨by repeat (first | (with_reducible first | exact HB.out | apply below_alloc | apply pw_below_drewN | apply below_drew1) | exact HB.out)⟩⟩
                      case round =>
                        clear H'
                        try clear c1
                        try clear p1
                        try clear q1
                        try clear hx1
                        try clear c2
                        try clear p2
                        try clear q2
                        try clear hx2
                        try clear qi2
                        try clear c3
                        try clear c4
                        try clear c4b0
                        try clear c4b1
                        try clear c5
                        try clear c5b0
                        try clear c6
                        try clear p6
                        try clear c7
                        try clear c7b0
                        try clear c8
                        try clear c8b0
                        try clear c9
                        try clear c9b0
                        try clear c10
                        try clear c10b0
                        try clear c11
                        try clear c11b0
                        try clear p12
                        try clear q12
                        try clear hx12
                        try clear c13
                        try clear c13b0
                        try clear p16
                        try clear q16
                        try clear hx16
                        try clear c17
                        try clear c17b0
                        try clear c20
                        try clear c20b0
                        try clear c20b1
                        try clear c23
                        try clear c23b0
                        try clear c23b1
                        try clear p23
                        try clear q23
                        try clear hx23
                        try clear p24
                        try clear q24
                        try clear hx24
                        try clear qi24
                        try clear c26
                        try clear c26b0
                        try clear c26b1
                        try clear c26b2
                        try clear c27
                        try clear c27b0
                        try clear c27b1
                        try clear c27b2
                        try clear c28
                        try clear c28b0
                        try clear c28b1
                        try clear c28b2
                        try clear c29
                        try clear c29b0
                        try clear c29b1
                        try clear c29b2
                        try clear c33
                        try clear c33b0
                        try clear c33b1
                        try clear c34
                        try clear c34b0
                        try clear c34b1
                        try clear c35
                        try clear c35b0
                        try clear c35b1
                        try clear c36
                        try clear c36b0
                        try clear c36b1
                        try clear c38
                        try clear c38b0
                        try clear c39
                        try clear c39b0
                        try clear c43
                        try clear hx230_0
                        try clear hx231_0
                        try clear hx233_0
                        try clear hx235_0
                        try clear hx237_0
                        try clear hx239_0
                        try clear hx245_0
                        try clear hx245_1
                        try clear hx245_2
                        try clear hx246_0
                        try clear hx246_1
                        try clear hx246_2
                        try clear p1
                        try clear p12
                        try clear p16
                        try clear p2
                        try clear p23
                        try clear p230
                        try clear p231
                        try clear p233
                        try clear p235
                        try clear p237
                        try clear p239
                        try clear p24
                        try clear p245
                        try clear p246
                        try clear p6
                        try clear q1
                        try clear q12
                        try clear q16
                        try clear q2
                        try clear q23
                        try clear q230
                        try clear q231
                        try clear q233
                        try clear q235
                        try clear q237
                        try clear q239
                        try clear q24
                        try clear q245
                        try clear q246
                        obtain ⟨x12_4, rfl, HA, HK4, HO_9, HB⟩ := hrel
                        cases gk with
                        | zero => exact absurd HA.out (by simp [pantrylaw22_LexHoles.l2])
                        | succ k4 =>
                          have H := HA.out
                          clear HA
                          simp only [pantrylaw22_LexHoles.l2] at H
                          by_cases c44 : x12_4 < (l0.length : Int)
                          · rw [if_pos c44] at H
                            have c44b0 : decide (x12_4 < (l0.length : Int)) = true := decide_eq_true c44
                            clear c44
                            obtain ⟨ji45, hji45⟩ : ∃ j_ : Int, (wrap64 (1 + (wrap64 (4 * x12_4)))) = j_ := ⟨_, rfl⟩
                            replace H : (if 0 ≤ (ji45) then (if (ji45) ≤ (wrap64 (5 + (wrap64 (4 * x12_4)))) then (if (wrap64 (5 + (wrap64 (4 * x12_4)))) ≤ (t240.length : Int) then ((some ((t240.take ((wrap64 (5 + (wrap64 (4 * x12_4)))) : Int).toNat).drop ((ji45) : Int).toNat : List (S28))).bind fun y247 => (if 0 < (y247.length : Int) then (if ((rd_T28 y247 0).f0) = 6 then (if ((rd_T28 y247 0).f1).toList = ([112] : List UInt8) then (if 1 < (y247.length : Int) then (if ((rd_T28 y247 1).f0) = 7 then (if 2 < (y247.length : Int) then (if ((rd_T28 y247 2).f0) = 2 then (if 0 ≤ x12_4 then (if (rdOf ByteArray.empty l0 x12_4).size + 1 ≤ 9223372036854775807 then (if ((rd_T28 y247 2).f1).toList = ((rdOf ByteArray.empty l0 x12_4) ++ (⟨#[120]⟩ : ByteArray)).toList then (if 3 < (y247.length : Int) then (if ((rd_T28 y247 3).f0) = 4 then (if ((rd_T28 y247 3).f1).toList = ([125] : List UInt8) then (pantrylaw22_LexHoles.l2 k4 l0 t240 (wrap64 (x12_4 + 1))) else (some false)) else (some false)) else (none)) else (some false)) else (none)) else (none)) else (some false)) else (none)) else (some false)) else (none)) else (some false)) else (some false)) else (none))) else (none)) else (none)) else (none)) = some r := by first | (rw [hji45] at H; exact H) | (simp only [hji45] at H ⊢; exact H)
                            have hji45w : (IntKind.i64.wrap (1 + (wrap64 (4 * x12_4)))) = ji45 := (i64_w _).trans hji45
                            by_cases c46 : 0 ≤ (ji45)
                            · rw [if_pos c46] at H
                              have c46b0 := eq_true c46
                              have c46b1 : decide (0 ≤ (ji45)) = true := decide_eq_true c46
                              clear c46
                              by_cases c47 : (ji45) ≤ (wrap64 (5 + (wrap64 (4 * x12_4))))
                              · rw [if_pos c47] at H
                                have c47b0 := eq_true c47
                                have c47b1 : decide ((ji45) ≤ (wrap64 (5 + (wrap64 (4 * x12_4))))) = true := decide_eq_true c47
                                by_cases c48 : (wrap64 (5 + (wrap64 (4 * x12_4)))) ≤ (t240.length : Int)
                                · rw [if_pos c48] at H
                                  have c48b0 := eq_true c48
                                  have c48b1 : decide ((wrap64 (5 + (wrap64 (4 * x12_4)))) ≤ (t240.length : Int)) = true := decide_eq_true c48
                                  obtain ⟨y247, hy247⟩ : ∃ y_ : List (S28), y_ = ((t240.take ((wrap64 (5 + (wrap64 (4 * x12_4)))) : Int).toNat).drop ((ji45) : Int).toNat) := ⟨_, rfl⟩
                                  replace H : (if 0 < (y247.length : Int) then (if ((rd_T28 y247 0).f0) = 6 then (if ((rd_T28 y247 0).f1).toList = ([112] : List UInt8) then (if 1 < (y247.length : Int) then (if ((rd_T28 y247 1).f0) = 7 then (if 2 < (y247.length : Int) then (if ((rd_T28 y247 2).f0) = 2 then (if 0 ≤ x12_4 then (if (rdOf ByteArray.empty l0 x12_4).size + 1 ≤ 9223372036854775807 then (if ((rd_T28 y247 2).f1).toList = ((rdOf ByteArray.empty l0 x12_4) ++ (⟨#[120]⟩ : ByteArray)).toList then (if 3 < (y247.length : Int) then (if ((rd_T28 y247 3).f0) = 4 then (if ((rd_T28 y247 3).f1).toList = ([125] : List UInt8) then (pantrylaw22_LexHoles.l2 k4 l0 t240 (wrap64 (x12_4 + 1))) else (some false)) else (some false)) else (none)) else (some false)) else (none)) else (none)) else (some false)) else (none)) else (some false)) else (none)) else (some false)) else (some false)) else (none)) = some r := by first | (rw [hy247]; with_reducible exact H) | (have H2_ := (Option.bind_some _ _).symm.trans H; rw [hy247]; with_reducible exact H2_) | (have H2_ := (Option.bind_some _ _).symm.trans H; with_reducible exact H2_) | with_reducible exact H | (rw [hy247]; exact H) | exact H
                                  have Ny247 := Aside0.mk hy247
                                  clear hy247
                                  by_cases c49 : 0 < (y247.length : Int)
                                  · rw [if_pos c49] at H
                                    have c49b0 : decide (0 < (y247.length : Int)) = true := decide_eq_true c49
                                    have c49b1 : decide (0 < y247.length) = true := decide_eq_true (by omega)
                                    clear c49
                                    by_cases c50 : ((rd_T28 y247 0).f0) = 6
                                    · rw [if_pos c50] at H
                                      have c50b0 : (((rd_T28 y247 0).f0) == 6) = true := beq_iff_eq.mpr c50
                                      have c50b1 : (((rd_T28 y247 0).f0) != 6) = false := bne_eq_false_iff_eq.mpr c50
                                      clear c50
                                      by_cases c51 : ((rd_T28 y247 0).f1).toList = ([112] : List UInt8)
                                      · rw [if_pos c51] at H
                                        have c51b0 : (((rd_T28 y247 0).f1).toList == ([112] : List UInt8)) = true := beq_iff_eq.mpr c51
                                        have c51b1 : (((rd_T28 y247 0).f1).toList != ([112] : List UInt8)) = false := bne_eq_false_iff_eq.mpr c51
                                        clear c51
                                        by_cases c52 : 1 < (y247.length : Int)
                                        · rw [if_pos c52] at H
                                          have c52b0 : decide (1 < (y247.length : Int)) = true := decide_eq_true c52
                                          have c52b1 : decide (1 < y247.length) = true := decide_eq_true (by omega)
                                          clear c52
                                          by_cases c53 : ((rd_T28 y247 1).f0) = 7
                                          · rw [if_pos c53] at H
                                            have c53b0 : (((rd_T28 y247 1).f0) == 7) = true := beq_iff_eq.mpr c53
                                            have c53b1 : (((rd_T28 y247 1).f0) != 7) = false := bne_eq_false_iff_eq.mpr c53
                                            clear c53
                                            by_cases c54 : 2 < (y247.length : Int)
                                            · rw [if_pos c54] at H
                                              have c54b0 : decide (2 < (y247.length : Int)) = true := decide_eq_true c54
                                              have c54b1 : decide (2 < y247.length) = true := decide_eq_true (by omega)
                                              clear c54
                                              by_cases c55 : ((rd_T28 y247 2).f0) = 2
                                              · rw [if_pos c55] at H
                                                have c55b0 : (((rd_T28 y247 2).f0) == 2) = true := beq_iff_eq.mpr c55
                                                have c55b1 : (((rd_T28 y247 2).f0) != 2) = false := bne_eq_false_iff_eq.mpr c55
                                                clear c55
                                                by_cases c56 : 0 ≤ x12_4
                                                · rw [if_pos c56] at H
                                                  have c56b0 : decide (0 ≤ x12_4) = true := decide_eq_true c56
                                                  clear c56
                                                  by_cases c57 : (rdOf ByteArray.empty l0 x12_4).size + 1 ≤ 9223372036854775807
                                                  · rw [if_pos c57] at H
                                                    have c57b0 := eq_true c57
                                                    have c57b1 : decide ((rdOf ByteArray.empty l0 x12_4).size + 1 ≤ 9223372036854775807) = true := decide_eq_true c57
                                                    try have c57b2 : (9223372036854775807 < (rdOf ByteArray.empty l0 x12_4).size + 1) = False := eq_false (Nat.not_lt.2 c57)
                                                    by_cases c58 : ((rd_T28 y247 2).f1).toList = ((rdOf ByteArray.empty l0 x12_4) ++ (⟨#[120]⟩ : ByteArray)).toList
                                                    · rw [if_pos c58] at H
                                                      have c58b0 : (((rd_T28 y247 2).f1).toList == ((rdOf ByteArray.empty l0 x12_4) ++ (⟨#[120]⟩ : ByteArray)).toList) = true := beq_iff_eq.mpr c58
                                                      have c58b1 : (((rd_T28 y247 2).f1).toList != ((rdOf ByteArray.empty l0 x12_4) ++ (⟨#[120]⟩ : ByteArray)).toList) = false := bne_eq_false_iff_eq.mpr c58
                                                      clear c58
                                                      by_cases c59 : 3 < (y247.length : Int)
                                                      · rw [if_pos c59] at H
                                                        have c59b0 : decide (3 < (y247.length : Int)) = true := decide_eq_true c59
                                                        have c59b1 : decide (3 < y247.length) = true := decide_eq_true (by omega)
                                                        clear c59
                                                        by_cases c60 : ((rd_T28 y247 3).f0) = 4
                                                        · rw [if_pos c60] at H
                                                          have c60b0 : (((rd_T28 y247 3).f0) == 4) = true := beq_iff_eq.mpr c60
                                                          have c60b1 : (((rd_T28 y247 3).f0) != 4) = false := bne_eq_false_iff_eq.mpr c60
                                                          clear c60
                                                          by_cases c61 : ((rd_T28 y247 3).f1).toList = ([125] : List UInt8)
                                                          · rw [if_pos c61] at H
                                                            have c61b0 : (((rd_T28 y247 3).f1).toList == ([125] : List UInt8)) = true := beq_iff_eq.mpr c61
                                                            have c61b1 : (((rd_T28 y247 3).f1).toList != ([125] : List UInt8)) = false := bne_eq_false_iff_eq.mpr c61
                                                            clear c61
                                                            have H' := Aside0.mk H
                                                            clear H
                                                            obtain ⟨Ao63, co63, eo63⟩ := Kd.R_slice HO_9.out
                                                            subst eo63
                                                            have q62 : ((wrap64 (5 + (wrap64 (4 * x12_4)))) : Int) ≤ ((t240.length : Int) : Int) := of_decide_eq_true (by first | (with_reducible assumption) | assumption)
                                                            obtain ⟨i062, hi062, _, hsz62, _⟩ := info_parts info28
                                                            have hroom62 : t240.length ≤ co63 := (Kd.R_reads' HO_9.out).2.1
                                                            have hC62 : Kd.C k28 _ Ao63 t240.length t240 := (Kd.R_reads' HO_9.out).2.2
                                                            have ql62 : ((ji45) : Int) ≤ ((wrap64 (5 + (wrap64 (4 * x12_4)))) : Int) := of_decide_eq_true (by first | (with_reducible assumption) | assumption)
                                                            have q062 : (0 : Int) ≤ ((ji45) : Int) := of_decide_eq_true (by first | (with_reducible assumption) | assumption)
                                                            have hcut62 := cut_mid (P := Try.prog) 22 28 .i64 .i64 Try.underlying22 hi062 3 hsz62 Ao63 t240.length co63 (ji45) (wrap64 (5 + (wrap64 (4 * x12_4)))) q062 ql62 q62 hroom62
                                                            have hr62 := Kd.C_mid (lo := ((ji45) : Int).toNat) (hi := ((wrap64 (5 + (wrap64 (4 * x12_4)))) : Int).toNat) (c := co63) hC62 (by omega) (by omega) hroom62
                                                            obtain ⟨A62, hA62⟩ : ∃ A1, A1 = (if co63 = ((ji45) : Int).toNat then Ao63 else (Ao63 : Option Addr).map (·.add (((ji45) : Int).toNat * 3))) := ⟨_, rfl⟩
                                                            obtain ⟨c62, hc62⟩ : ∃ c1, c1 = co63 - ((ji45) : Int).toNat := ⟨_, rfl⟩
                                                            have hy62 : y247.length = ((wrap64 (5 + (wrap64 (4 * x12_4)))) : Int).toNat - ((ji45) : Int).toNat := (by rw [Ny247.out, List.length_drop, List.length_take] <;> omega)
                                                            rw [show ((t240).take ((wrap64 (5 + (wrap64 (4 * x12_4)))) : Int).toNat).drop ((ji45) : Int).toNat = y247 from Ny247.out.symm] at hr62
                                                            replace hr62 : Kd.C k28 _ A62 y247.length y247 := (by rw [hA62]; exact hr62)
                                                            rw [← hy62, ← hA62, ← hc62] at hcut62
                                                            have HR250 := Aside0.mk hr62
                                                            have HC250 := Aside0.mk (show y247.length ≤ c62 from by rw [hy62, hc62]; exact Nat.sub_le_sub_right (Nat.le_trans (by omega) hroom62) _)
                                                            clear hr62 hC62 hroom62 hi062 hsz62 hc62
                                                            have KY62 := Aside0.mk hy62
                                                            have KA62 := Aside0.mk hA62
                                                            clear hy62 hA62
                                                            have KL62 := Aside0.mk (show ((wrap64 (5 + (wrap64 (4 * x12_4)))) : Int).toNat ≤ t240.length from by omega)
                                                            have KM62 := Aside0.mk (show ((ji45) : Int).toNat ≤ ((wrap64 (5 + (wrap64 (4 * x12_4)))) : Int).toNat from by omega)
                                                            replace q62 := eq_true q62
                                                            have p251 : 0 ≤ (0 : Int) := (by omega)
                                                            have q251 : 0 < (y247.length : Int) := of_decide_eq_true (by first | (with_reducible assumption) | assumption)
                                                            obtain ⟨ad251, e251, hx251_0, hx251_1, hx251_2⟩ := at_T28 (by repeat (first | (with_reducible exact HR250.out) | (with_reducible refine Kd.C_alloc ?_ _) | (with_reducible refine Kd.C_drewN ?_ _) | (with_reducible refine Kd.C_drew ?_) | exact HR250.out)) 0 p251 q251
                                                            cases e251
                                                            have qi251 : (0 < y247.length) = True := eq_true (by omega)
                                                            (try rw [show ((0 : Int)).toNat = 0 from rfl] at hx251_0)
                                                            (try rw [show 0 * 3 = 0 from rfl] at hx251_0)
                                                            (try rw [Addr.add_zero'] at hx251_0)
                                                            (try rw [show ((0 : Int)).toNat = 0 from rfl] at hx251_1)
                                                            (try rw [show 0 * 3 = 0 from rfl] at hx251_1)
                                                            (try rw [Addr.add_zero'] at hx251_1)
                                                            (try rw [show ((0 : Int)).toNat = 0 from rfl] at hx251_2)
                                                            (try rw [show 0 * 3 = 0 from rfl] at hx251_2)
                                                            (try rw [Addr.add_zero'] at hx251_2)
                                                            replace p251 := eq_true p251
                                                            replace q251 := eq_true q251
                                                            have p252 : 0 ≤ (0 : Int) := (by omega)
                                                            have q252 : 0 < (y247.length : Int) := of_decide_eq_true (by first | (with_reducible assumption) | assumption)
                                                            obtain ⟨ad252, e252, hx252_0, hx252_1, hx252_2⟩ := at_T28 (by repeat (first | (with_reducible exact HR250.out) | (with_reducible refine Kd.C_alloc ?_ _) | (with_reducible refine Kd.C_drewN ?_ _) | (with_reducible refine Kd.C_drew ?_) | exact HR250.out)) 0 p252 q252
                                                            obtain rfl : ad251 = ad252 := (by injection e252)
                                                            have qi252 : (0 < y247.length) = True := eq_true (by omega)
                                                            (try rw [show ((0 : Int)).toNat = 0 from rfl] at hx252_0)
                                                            (try rw [show 0 * 3 = 0 from rfl] at hx252_0)
                                                            (try rw [Addr.add_zero'] at hx252_0)
                                                            (try rw [show ((0 : Int)).toNat = 0 from rfl] at hx252_1)
                                                            (try rw [show 0 * 3 = 0 from rfl] at hx252_1)
                                                            (try rw [Addr.add_zero'] at hx252_1)
                                                            (try rw [show ((0 : Int)).toNat = 0 from rfl] at hx252_2)
                                                            (try rw [show 0 * 3 = 0 from rfl] at hx252_2)
                                                            (try rw [Addr.add_zero'] at hx252_2)
                                                            replace p252 := eq_true p252
                                                            replace q252 := eq_true q252
                                                            have p253 : 0 ≤ (1 : Int) := (by omega)
                                                            have q253 : 1 < (y247.length : Int) := of_decide_eq_true (by first | (with_reducible assumption) | assumption)
                                                            obtain ⟨ad253, e253, hx253_0, hx253_1, hx253_2⟩ := at_T28 (by repeat (first | (with_reducible exact HR250.out) | (with_reducible refine Kd.C_alloc ?_ _) | (with_reducible refine Kd.C_drewN ?_ _) | (with_reducible refine Kd.C_drew ?_) | exact HR250.out)) 1 p253 q253
                                                            obtain rfl : ad251 = ad253 := (by injection e253)
                                                            (try simp only [show (1 : Int).toNat = 1 from rfl, Nat.reduceMul, Nat.reduceEqDiff, Go.Addr.add, ↓reduceIte] at hx253_0)
                                                            (try simp only [show (1 : Int).toNat = 1 from rfl, Nat.reduceMul, Nat.reduceEqDiff, Go.Addr.add, ↓reduceIte] at hx253_1)
                                                            (try simp only [show (1 : Int).toNat = 1 from rfl, Nat.reduceMul, Nat.reduceEqDiff, Go.Addr.add, ↓reduceIte] at hx253_2)
                                                            have qi253 : (1 < y247.length) = True := eq_true (by omega)
                                                            (try rw [show ((1 : Int)).toNat = 1 from rfl] at hx253_0)
                                                            (try rw [show 1 * 3 = 3 from rfl] at hx253_0)
                                                            (try rw [show ((1 : Int)).toNat = 1 from rfl] at hx253_1)
                                                            (try rw [show 1 * 3 = 3 from rfl] at hx253_1)
                                                            (try rw [show ((1 : Int)).toNat = 1 from rfl] at hx253_2)
                                                            (try rw [show 1 * 3 = 3 from rfl] at hx253_2)
                                                            replace p253 := eq_true p253
                                                            replace q253 := eq_true q253
                                                            have p254 : 0 ≤ (2 : Int) := (by omega)
                                                            have q254 : 2 < (y247.length : Int) := of_decide_eq_true (by first | (with_reducible assumption) | assumption)
                                                            obtain ⟨ad254, e254, hx254_0, hx254_1, hx254_2⟩ := at_T28 (by repeat (first | (with_reducible exact HR250.out) | (with_reducible refine Kd.C_alloc ?_ _) | (with_reducible refine Kd.C_drewN ?_ _) | (with_reducible refine Kd.C_drew ?_) | exact HR250.out)) 2 p254 q254
                                                            obtain rfl : ad251 = ad254 := (by injection e254)
                                                            (try simp only [show (2 : Int).toNat = 2 from rfl, Nat.reduceMul, Nat.reduceEqDiff, Go.Addr.add, ↓reduceIte] at hx254_0)
                                                            (try simp only [show (2 : Int).toNat = 2 from rfl, Nat.reduceMul, Nat.reduceEqDiff, Go.Addr.add, ↓reduceIte] at hx254_1)
                                                            (try simp only [show (2 : Int).toNat = 2 from rfl, Nat.reduceMul, Nat.reduceEqDiff, Go.Addr.add, ↓reduceIte] at hx254_2)
                                                            have qi254 : (2 < y247.length) = True := eq_true (by omega)
                                                            (try rw [show ((2 : Int)).toNat = 2 from rfl] at hx254_0)
                                                            (try rw [show 2 * 3 = 6 from rfl] at hx254_0)
                                                            (try rw [show ((2 : Int)).toNat = 2 from rfl] at hx254_1)
                                                            (try rw [show 2 * 3 = 6 from rfl] at hx254_1)
                                                            (try rw [show ((2 : Int)).toNat = 2 from rfl] at hx254_2)
                                                            (try rw [show 2 * 3 = 6 from rfl] at hx254_2)
                                                            replace p254 := eq_true p254
                                                            replace q254 := eq_true q254
                                                            have p255 : 0 ≤ (2 : Int) := (by omega)
                                                            have q255 : 2 < (y247.length : Int) := of_decide_eq_true (by first | (with_reducible assumption) | assumption)
                                                            obtain ⟨ad255, e255, hx255_0, hx255_1, hx255_2⟩ := at_T28 (by repeat (first | (with_reducible exact HR250.out) | (with_reducible refine Kd.C_alloc ?_ _) | (with_reducible refine Kd.C_drewN ?_ _) | (with_reducible refine Kd.C_drew ?_) | exact HR250.out)) 2 p255 q255
                                                            obtain rfl : ad251 = ad255 := (by injection e255)
                                                            (try simp only [show (2 : Int).toNat = 2 from rfl, Nat.reduceMul, Nat.reduceEqDiff, Go.Addr.add, ↓reduceIte] at hx255_0)
                                                            (try simp only [show (2 : Int).toNat = 2 from rfl, Nat.reduceMul, Nat.reduceEqDiff, Go.Addr.add, ↓reduceIte] at hx255_1)
                                                            (try simp only [show (2 : Int).toNat = 2 from rfl, Nat.reduceMul, Nat.reduceEqDiff, Go.Addr.add, ↓reduceIte] at hx255_2)
                                                            have qi255 : (2 < y247.length) = True := eq_true (by omega)
                                                            (try rw [show ((2 : Int)).toNat = 2 from rfl] at hx255_0)
                                                            (try rw [show 2 * 3 = 6 from rfl] at hx255_0)
                                                            (try rw [show ((2 : Int)).toNat = 2 from rfl] at hx255_1)
                                                            (try rw [show 2 * 3 = 6 from rfl] at hx255_1)
                                                            (try rw [show ((2 : Int)).toNat = 2 from rfl] at hx255_2)
                                                            (try rw [show 2 * 3 = 6 from rfl] at hx255_2)
                                                            replace p255 := eq_true p255
                                                            replace q255 := eq_true q255
                                                            have p256 : 0 ≤ (x12_4 : Int) := of_decide_eq_true (by first | (with_reducible assumption) | assumption)
                                                            have q256 : x12_4 < (l0.length : Int) := of_decide_eq_true (by first | (with_reducible assumption) | assumption)
                                                            obtain ⟨ad256, e256, hx256_0⟩ := Kd.at_string HR0.out x12_4 p256 q256
                                                            cases e256
                                                            replace hx256_0 := (HB.out.cell (World.block_lt_of_cell? w _ hx256_0)).trans hx256_0
                                                            replace p256 := eq_true p256
                                                            replace q256 := eq_true q256
                                                            have p257 : 0 ≤ (3 : Int) := (by omega)
                                                            have q257 : 3 < (y247.length : Int) := of_decide_eq_true (by first | (with_reducible assumption) | assumption)
                                                            obtain ⟨ad257, e257, hx257_0, hx257_1, hx257_2⟩ := at_T28 (by repeat (first | (with_reducible exact HR250.out) | (with_reducible refine Kd.C_alloc ?_ _) | (with_reducible refine Kd.C_drewN ?_ _) | (with_reducible refine Kd.C_drew ?_) | exact HR250.out)) 3 p257 q257
                                                            obtain rfl : ad251 = ad257 := (by injection e257)
                                                            (try simp only [show (3 : Int).toNat = 3 from rfl, Nat.reduceMul, Nat.reduceEqDiff, Go.Addr.add, ↓reduceIte] at hx257_0)
                                                            (try simp only [show (3 : Int).toNat = 3 from rfl, Nat.reduceMul, Nat.reduceEqDiff, Go.Addr.add, ↓reduceIte] at hx257_1)
                                                            (try simp only [show (3 : Int).toNat = 3 from rfl, Nat.reduceMul, Nat.reduceEqDiff, Go.Addr.add, ↓reduceIte] at hx257_2)
                                                            have qi257 : (3 < y247.length) = True := eq_true (by omega)
                                                            (try rw [show ((3 : Int)).toNat = 3 from rfl] at hx257_0)
                                                            (try rw [show 3 * 3 = 9 from rfl] at hx257_0)
                                                            (try rw [show ((3 : Int)).toNat = 3 from rfl] at hx257_1)
                                                            (try rw [show 3 * 3 = 9 from rfl] at hx257_1)
                                                            (try rw [show ((3 : Int)).toNat = 3 from rfl] at hx257_2)
                                                            (try rw [show 3 * 3 = 9 from rfl] at hx257_2)
                                                            replace p257 := eq_true p257
                                                            replace q257 := eq_true q257
                                                            have p258 : 0 ≤ (3 : Int) := (by omega)
                                                            have q258 : 3 < (y247.length : Int) := of_decide_eq_true (by first | (with_reducible assumption) | assumption)
                                                            obtain ⟨ad258, e258, hx258_0, hx258_1, hx258_2⟩ := at_T28 (by repeat (first | (with_reducible exact HR250.out) | (with_reducible refine Kd.C_alloc ?_ _) | (with_reducible refine Kd.C_drewN ?_ _) | (with_reducible refine Kd.C_drew ?_) | exact HR250.out)) 3 p258 q258
                                                            obtain rfl : ad251 = ad258 := (by injection e258)
                                                            (try simp only [show (3 : Int).toNat = 3 from rfl, Nat.reduceMul, Nat.reduceEqDiff, Go.Addr.add, ↓reduceIte] at hx258_0)
                                                            (try simp only [show (3 : Int).toNat = 3 from rfl, Nat.reduceMul, Nat.reduceEqDiff, Go.Addr.add, ↓reduceIte] at hx258_1)
                                                            (try simp only [show (3 : Int).toNat = 3 from rfl, Nat.reduceMul, Nat.reduceEqDiff, Go.Addr.add, ↓reduceIte] at hx258_2)
                                                            have qi258 : (3 < y247.length) = True := eq_true (by omega)
                                                            (try rw [show ((3 : Int)).toNat = 3 from rfl] at hx258_0)
                                                            (try rw [show 3 * 3 = 9 from rfl] at hx258_0)
                                                            (try rw [show ((3 : Int)).toNat = 3 from rfl] at hx258_1)
                                                            (try rw [show 3 * 3 = 9 from rfl] at hx258_1)
                                                            (try rw [show ((3 : Int)).toNat = 3 from rfl] at hx258_2)
                                                            (try rw [show 3 * 3 = 9 from rfl] at hx258_2)
                                                            replace p258 := eq_true p258
                                                            replace q258 := eq_true q258
                                                            go_wp2
                                                            repeat (go_quiet (fail); try go_wp2)
                                                            go_roundg k4
                                                            case measure => have := HJ2.out; have := HK2.out; have := HJ30.out; have := HK4.out; omega
                                                            case rel => exact ⟨(wrap64 (x12_4 + 1)), (by first | rfl | (simp; done) | (simp [*]; done)), H', ⟨by have := HJ2.out; have := HK2.out; have := HJ30.out; have := HK4.out; omega⟩, ⟨by (with_reducible repeat (first | apply Kd.R_alloc | apply Kd.R_drewN | apply Kd.R_drew)); exact HO_9.out⟩, ⟨by repeat (first | (with_reducible first | exact HB.out | apply below_alloc | apply pw_below_drewN | apply below_drew1) | exact HB.out)⟩⟩
                                                          · rw [if_neg c61] at H
                                                            have c61b0 : (((rd_T28 y247 3).f1).toList == ([125] : List UInt8)) = false := beq_eq_false_iff_ne.mpr c61
                                                            have c61b1 : (((rd_T28 y247 3).f1).toList != ([125] : List UInt8)) = true := bne_iff_ne.mpr c61
                                                            first
                                                              | exact absurd (show false = true from (Option.some.inj H).trans HRT_.out) (by decide)
                                                              | (skip
                                                                 obtain rfl := Option.some.inj H
                                                                 obtain ⟨Ao65, co65, eo65⟩ := Kd.R_slice HO_9.out
                                                                 subst eo65
                                                                 have q64 : ((wrap64 (5 + (wrap64 (4 * x12_4)))) : Int) ≤ ((t240.length : Int) : Int) := of_decide_eq_true (by first | (with_reducible assumption) | assumption)
                                                                 obtain ⟨i064, hi064, _, hsz64, _⟩ := info_parts info28
                                                                 have hroom64 : t240.length ≤ co65 := (Kd.R_reads' HO_9.out).2.1
                                                                 have hC64 : Kd.C k28 _ Ao65 t240.length t240 := (Kd.R_reads' HO_9.out).2.2
                                                                 have ql64 : ((ji45) : Int) ≤ ((wrap64 (5 + (wrap64 (4 * x12_4)))) : Int) := of_decide_eq_true (by first | (with_reducible assumption) | assumption)
                                                                 have q064 : (0 : Int) ≤ ((ji45) : Int) := of_decide_eq_true (by first | (with_reducible assumption) | assumption)
                                                                 have hcut64 := cut_mid (P := Try.prog) 22 28 .i64 .i64 Try.underlying22 hi064 3 hsz64 Ao65 t240.length co65 (ji45) (wrap64 (5 + (wrap64 (4 * x12_4)))) q064 ql64 q64 hroom64
                                                                 have hr64 := Kd.C_mid (lo := ((ji45) : Int).toNat) (hi := ((wrap64 (5 + (wrap64 (4 * x12_4)))) : Int).toNat) (c := co65) hC64 (by omega) (by omega) hroom64
                                                                 obtain ⟨A64, hA64⟩ : ∃ A1, A1 = (if co65 = ((ji45) : Int).toNat then Ao65 else (Ao65 : Option Addr).map (·.add (((ji45) : Int).toNat * 3))) := ⟨_, rfl⟩
                                                                 obtain ⟨c64, hc64⟩ : ∃ c1, c1 = co65 - ((ji45) : Int).toNat := ⟨_, rfl⟩
                                                                 have hy64 : y247.length = ((wrap64 (5 + (wrap64 (4 * x12_4)))) : Int).toNat - ((ji45) : Int).toNat := (by rw [Ny247.out, List.length_drop, List.length_take] <;> omega)
                                                                 rw [show ((t240).take ((wrap64 (5 + (wrap64 (4 * x12_4)))) : Int).toNat).drop ((ji45) : Int).toNat = y247 from Ny247.out.symm] at hr64
                                                                 replace hr64 : Kd.C k28 _ A64 y247.length y247 := (by rw [hA64]; exact hr64)
                                                                 rw [← hy64, ← hA64, ← hc64] at hcut64
                                                                 have HR250 := Aside0.mk hr64
                                                                 have HC250 := Aside0.mk (show y247.length ≤ c64 from by rw [hy64, hc64]; exact Nat.sub_le_sub_right (Nat.le_trans (by omega) hroom64) _)
                                                                 clear hr64 hC64 hroom64 hi064 hsz64 hc64
                                                                 have KY64 := Aside0.mk hy64
                                                                 have KA64 := Aside0.mk hA64
                                                                 clear hy64 hA64
                                                                 have KL64 := Aside0.mk (show ((wrap64 (5 + (wrap64 (4 * x12_4)))) : Int).toNat ≤ t240.length from by omega)
                                                                 have KM64 := Aside0.mk (show ((ji45) : Int).toNat ≤ ((wrap64 (5 + (wrap64 (4 * x12_4)))) : Int).toNat from by omega)
                                                                 replace q64 := eq_true q64
                                                                 have p251 : 0 ≤ (0 : Int) := (by omega)
                                                                 have q251 : 0 < (y247.length : Int) := of_decide_eq_true (by first | (with_reducible assumption) | assumption)
                                                                 obtain ⟨ad251, e251, hx251_0, hx251_1, hx251_2⟩ := at_T28 (by repeat (first | (with_reducible exact HR250.out) | (with_reducible refine Kd.C_alloc ?_ _) | (with_reducible refine Kd.C_drewN ?_ _) | (with_reducible refine Kd.C_drew ?_) | exact HR250.out)) 0 p251 q251
                                                                 cases e251
                                                                 have qi251 : (0 < y247.length) = True := eq_true (by omega)
                                                                 (try rw [show ((0 : Int)).toNat = 0 from rfl] at hx251_0)
                                                                 (try rw [show 0 * 3 = 0 from rfl] at hx251_0)
                                                                 (try rw [Addr.add_zero'] at hx251_0)
                                                                 (try rw [show ((0 : Int)).toNat = 0 from rfl] at hx251_1)
                                                                 (try rw [show 0 * 3 = 0 from rfl] at hx251_1)
                                                                 (try rw [Addr.add_zero'] at hx251_1)
                                                                 (try rw [show ((0 : Int)).toNat = 0 from rfl] at hx251_2)
                                                                 (try rw [show 0 * 3 = 0 from rfl] at hx251_2)
                                                                 (try rw [Addr.add_zero'] at hx251_2)
                                                                 replace p251 := eq_true p251
                                                                 replace q251 := eq_true q251
                                                                 have p252 : 0 ≤ (0 : Int) := (by omega)
                                                                 have q252 : 0 < (y247.length : Int) := of_decide_eq_true (by first | (with_reducible assumption) | assumption)
                                                                 obtain ⟨ad252, e252, hx252_0, hx252_1, hx252_2⟩ := at_T28 (by repeat (first | (with_reducible exact HR250.out) | (with_reducible refine Kd.C_alloc ?_ _) | (with_reducible refine Kd.C_drewN ?_ _) | (with_reducible refine Kd.C_drew ?_) | exact HR250.out)) 0 p252 q252
                                                                 obtain rfl : ad251 = ad252 := (by injection e252)
                                                                 have qi252 : (0 < y247.length) = True := eq_true (by omega)
                                                                 (try rw [show ((0 : Int)).toNat = 0 from rfl] at hx252_0)
                                                                 (try rw [show 0 * 3 = 0 from rfl] at hx252_0)
                                                                 (try rw [Addr.add_zero'] at hx252_0)
                                                                 (try rw [show ((0 : Int)).toNat = 0 from rfl] at hx252_1)
                                                                 (try rw [show 0 * 3 = 0 from rfl] at hx252_1)
                                                                 (try rw [Addr.add_zero'] at hx252_1)
                                                                 (try rw [show ((0 : Int)).toNat = 0 from rfl] at hx252_2)
                                                                 (try rw [show 0 * 3 = 0 from rfl] at hx252_2)
                                                                 (try rw [Addr.add_zero'] at hx252_2)
                                                                 replace p252 := eq_true p252
                                                                 replace q252 := eq_true q252
                                                                 have p253 : 0 ≤ (1 : Int) := (by omega)
                                                                 have q253 : 1 < (y247.length : Int) := of_decide_eq_true (by first | (with_reducible assumption) | assumption)
                                                                 obtain ⟨ad253, e253, hx253_0, hx253_1, hx253_2⟩ := at_T28 (by repeat (first | (with_reducible exact HR250.out) | (with_reducible refine Kd.C_alloc ?_ _) | (with_reducible refine Kd.C_drewN ?_ _) | (with_reducible refine Kd.C_drew ?_) | exact HR250.out)) 1 p253 q253
                                                                 obtain rfl : ad251 = ad253 := (by injection e253)
                                                                 (try simp only [show (1 : Int).toNat = 1 from rfl, Nat.reduceMul, Nat.reduceEqDiff, Go.Addr.add, ↓reduceIte] at hx253_0)
                                                                 (try simp only [show (1 : Int).toNat = 1 from rfl, Nat.reduceMul, Nat.reduceEqDiff, Go.Addr.add, ↓reduceIte] at hx253_1)
                                                                 (try simp only [show (1 : Int).toNat = 1 from rfl, Nat.reduceMul, Nat.reduceEqDiff, Go.Addr.add, ↓reduceIte] at hx253_2)
                                                                 have qi253 : (1 < y247.length) = True := eq_true (by omega)
                                                                 (try rw [show ((1 : Int)).toNat = 1 from rfl] at hx253_0)
                                                                 (try rw [show 1 * 3 = 3 from rfl] at hx253_0)
                                                                 (try rw [show ((1 : Int)).toNat = 1 from rfl] at hx253_1)
                                                                 (try rw [show 1 * 3 = 3 from rfl] at hx253_1)
                                                                 (try rw [show ((1 : Int)).toNat = 1 from rfl] at hx253_2)
                                                                 (try rw [show 1 * 3 = 3 from rfl] at hx253_2)
                                                                 replace p253 := eq_true p253
                                                                 replace q253 := eq_true q253
                                                                 have p254 : 0 ≤ (2 : Int) := (by omega)
                                                                 have q254 : 2 < (y247.length : Int) := of_decide_eq_true (by first | (with_reducible assumption) | assumption)
                                                                 obtain ⟨ad254, e254, hx254_0, hx254_1, hx254_2⟩ := at_T28 (by repeat (first | (with_reducible exact HR250.out) | (with_reducible refine Kd.C_alloc ?_ _) | (with_reducible refine Kd.C_drewN ?_ _) | (with_reducible refine Kd.C_drew ?_) | exact HR250.out)) 2 p254 q254
                                                                 obtain rfl : ad251 = ad254 := (by injection e254)
                                                                 (try simp only [show (2 : Int).toNat = 2 from rfl, Nat.reduceMul, Nat.reduceEqDiff, Go.Addr.add, ↓reduceIte] at hx254_0)
                                                                 (try simp only [show (2 : Int).toNat = 2 from rfl, Nat.reduceMul, Nat.reduceEqDiff, Go.Addr.add, ↓reduceIte] at hx254_1)
                                                                 (try simp only [show (2 : Int).toNat = 2 from rfl, Nat.reduceMul, Nat.reduceEqDiff, Go.Addr.add, ↓reduceIte] at hx254_2)
                                                                 have qi254 : (2 < y247.length) = True := eq_true (by omega)
                                                                 (try rw [show ((2 : Int)).toNat = 2 from rfl] at hx254_0)
                                                                 (try rw [show 2 * 3 = 6 from rfl] at hx254_0)
                                                                 (try rw [show ((2 : Int)).toNat = 2 from rfl] at hx254_1)
                                                                 (try rw [show 2 * 3 = 6 from rfl] at hx254_1)
                                                                 (try rw [show ((2 : Int)).toNat = 2 from rfl] at hx254_2)
                                                                 (try rw [show 2 * 3 = 6 from rfl] at hx254_2)
                                                                 replace p254 := eq_true p254
                                                                 replace q254 := eq_true q254
                                                                 have p255 : 0 ≤ (2 : Int) := (by omega)
                                                                 have q255 : 2 < (y247.length : Int) := of_decide_eq_true (by first | (with_reducible assumption) | assumption)
                                                                 obtain ⟨ad255, e255, hx255_0, hx255_1, hx255_2⟩ := at_T28 (by repeat (first | (with_reducible exact HR250.out) | (with_reducible refine Kd.C_alloc ?_ _) | (with_reducible refine Kd.C_drewN ?_ _) | (with_reducible refine Kd.C_drew ?_) | exact HR250.out)) 2 p255 q255
                                                                 obtain rfl : ad251 = ad255 := (by injection e255)
                                                                 (try simp only [show (2 : Int).toNat = 2 from rfl, Nat.reduceMul, Nat.reduceEqDiff, Go.Addr.add, ↓reduceIte] at hx255_0)
                                                                 (try simp only [show (2 : Int).toNat = 2 from rfl, Nat.reduceMul, Nat.reduceEqDiff, Go.Addr.add, ↓reduceIte] at hx255_1)
                                                                 (try simp only [show (2 : Int).toNat = 2 from rfl, Nat.reduceMul, Nat.reduceEqDiff, Go.Addr.add, ↓reduceIte] at hx255_2)
                                                                 have qi255 : (2 < y247.length) = True := eq_true (by omega)
                                                                 (try rw [show ((2 : Int)).toNat = 2 from rfl] at hx255_0)
                                                                 (try rw [show 2 * 3 = 6 from rfl] at hx255_0)
                                                                 (try rw [show ((2 : Int)).toNat = 2 from rfl] at hx255_1)
                                                                 (try rw [show 2 * 3 = 6 from rfl] at hx255_1)
                                                                 (try rw [show ((2 : Int)).toNat = 2 from rfl] at hx255_2)
                                                                 (try rw [show 2 * 3 = 6 from rfl] at hx255_2)
                                                                 replace p255 := eq_true p255
                                                                 replace q255 := eq_true q255
                                                                 have p256 : 0 ≤ (x12_4 : Int) := of_decide_eq_true (by first | (with_reducible assumption) | assumption)
                                                                 have q256 : x12_4 < (l0.length : Int) := of_decide_eq_true (by first | (with_reducible assumption) | assumption)
                                                                 obtain ⟨ad256, e256, hx256_0⟩ := Kd.at_string HR0.out x12_4 p256 q256
                                                                 cases e256
                                                                 replace hx256_0 := (HB.out.cell (World.block_lt_of_cell? w _ hx256_0)).trans hx256_0
                                                                 replace p256 := eq_true p256
                                                                 replace q256 := eq_true q256
                                                                 have p257 : 0 ≤ (3 : Int) := (by omega)
                                                                 have q257 : 3 < (y247.length : Int) := of_decide_eq_true (by first | (with_reducible assumption) | assumption)
                                                                 obtain ⟨ad257, e257, hx257_0, hx257_1, hx257_2⟩ := at_T28 (by repeat (first | (with_reducible exact HR250.out) | (with_reducible refine Kd.C_alloc ?_ _) | (with_reducible refine Kd.C_drewN ?_ _) | (with_reducible refine Kd.C_drew ?_) | exact HR250.out)) 3 p257 q257
                                                                 obtain rfl : ad251 = ad257 := (by injection e257)
                                                                 (try simp only [show (3 : Int).toNat = 3 from rfl, Nat.reduceMul, Nat.reduceEqDiff, Go.Addr.add, ↓reduceIte] at hx257_0)
                                                                 (try simp only [show (3 : Int).toNat = 3 from rfl, Nat.reduceMul, Nat.reduceEqDiff, Go.Addr.add, ↓reduceIte] at hx257_1)
                                                                 (try simp only [show (3 : Int).toNat = 3 from rfl, Nat.reduceMul, Nat.reduceEqDiff, Go.Addr.add, ↓reduceIte] at hx257_2)
                                                                 have qi257 : (3 < y247.length) = True := eq_true (by omega)
                                                                 (try rw [show ((3 : Int)).toNat = 3 from rfl] at hx257_0)
                                                                 (try rw [show 3 * 3 = 9 from rfl] at hx257_0)
                                                                 (try rw [show ((3 : Int)).toNat = 3 from rfl] at hx257_1)
                                                                 (try rw [show 3 * 3 = 9 from rfl] at hx257_1)
                                                                 (try rw [show ((3 : Int)).toNat = 3 from rfl] at hx257_2)
                                                                 (try rw [show 3 * 3 = 9 from rfl] at hx257_2)
                                                                 replace p257 := eq_true p257
                                                                 replace q257 := eq_true q257
                                                                 have p258 : 0 ≤ (3 : Int) := (by omega)
                                                                 have q258 : 3 < (y247.length : Int) := of_decide_eq_true (by first | (with_reducible assumption) | assumption)
                                                                 obtain ⟨ad258, e258, hx258_0, hx258_1, hx258_2⟩ := at_T28 (by repeat (first | (with_reducible exact HR250.out) | (with_reducible refine Kd.C_alloc ?_ _) | (with_reducible refine Kd.C_drewN ?_ _) | (with_reducible refine Kd.C_drew ?_) | exact HR250.out)) 3 p258 q258
                                                                 obtain rfl : ad251 = ad258 := (by injection e258)
                                                                 (try simp only [show (3 : Int).toNat = 3 from rfl, Nat.reduceMul, Nat.reduceEqDiff, Go.Addr.add, ↓reduceIte] at hx258_0)
                                                                 (try simp only [show (3 : Int).toNat = 3 from rfl, Nat.reduceMul, Nat.reduceEqDiff, Go.Addr.add, ↓reduceIte] at hx258_1)
                                                                 (try simp only [show (3 : Int).toNat = 3 from rfl, Nat.reduceMul, Nat.reduceEqDiff, Go.Addr.add, ↓reduceIte] at hx258_2)
                                                                 have qi258 : (3 < y247.length) = True := eq_true (by omega)
                                                                 (try rw [show ((3 : Int)).toNat = 3 from rfl] at hx258_0)
                                                                 (try rw [show 3 * 3 = 9 from rfl] at hx258_0)
                                                                 (try rw [show ((3 : Int)).toNat = 3 from rfl] at hx258_1)
                                                                 (try rw [show 3 * 3 = 9 from rfl] at hx258_1)
                                                                 (try rw [show ((3 : Int)).toNat = 3 from rfl] at hx258_2)
                                                                 (try rw [show 3 * 3 = 9 from rfl] at hx258_2)
                                                                 replace p258 := eq_true p258
                                                                 replace q258 := eq_true q258
                                                                 go_wp2
                                                                 repeat (go_quiet (fail); try go_wp2)
                                                                 go_ret
                                                                 exact ⟨by first | rfl | (simp [errW_none, errW_some] <;> rfl) | (simp only [← hji45]; first | rfl | (simp [errW_none, errW_some] <;> rfl)) | (simp [*, errW_none, errW_some] <;> rfl), by repeat (first | (with_reducible first | exact HB.out | apply below_alloc | apply pw_below_drewN | apply below_drew1) | exact HB.out)⟩)
                                                        · rw [if_neg c60] at H
                                                          have c60b0 : (((rd_T28 y247 3).f0) == 4) = false := beq_eq_false_iff_ne.mpr c60
                                                          have c60b1 : (((rd_T28 y247 3).f0) != 4) = true := bne_iff_ne.mpr c60
                                                          first
                                                            | exact absurd (show false = true from (Option.some.inj H).trans HRT_.out) (by decide)
                                                            | (skip
                                                               obtain rfl := Option.some.inj H
                                                               obtain ⟨Ao67, co67, eo67⟩ := Kd.R_slice HO_9.out
                                                               subst eo67
                                                               have q66 : ((wrap64 (5 + (wrap64 (4 * x12_4)))) : Int) ≤ ((t240.length : Int) : Int) := of_decide_eq_true (by first | (with_reducible assumption) | assumption)
                                                               obtain ⟨i066, hi066, _, hsz66, _⟩ := info_parts info28
                                                               have hroom66 : t240.length ≤ co67 := (Kd.R_reads' HO_9.out).2.1
                                                               have hC66 : Kd.C k28 _ Ao67 t240.length t240 := (Kd.R_reads' HO_9.out).2.2
                                                               have ql66 : ((ji45) : Int) ≤ ((wrap64 (5 + (wrap64 (4 * x12_4)))) : Int) := of_decide_eq_true (by first | (with_reducible assumption) | assumption)
                                                               have q066 : (0 : Int) ≤ ((ji45) : Int) := of_decide_eq_true (by first | (with_reducible assumption) | assumption)
                                                               have hcut66 := cut_mid (P := Try.prog) 22 28 .i64 .i64 Try.underlying22 hi066 3 hsz66 Ao67 t240.length co67 (ji45) (wrap64 (5 + (wrap64 (4 * x12_4)))) q066 ql66 q66 hroom66
                                                               have hr66 := Kd.C_mid (lo := ((ji45) : Int).toNat) (hi := ((wrap64 (5 + (wrap64 (4 * x12_4)))) : Int).toNat) (c := co67) hC66 (by omega) (by omega) hroom66
                                                               obtain ⟨A66, hA66⟩ : ∃ A1, A1 = (if co67 = ((ji45) : Int).toNat then Ao67 else (Ao67 : Option Addr).map (·.add (((ji45) : Int).toNat * 3))) := ⟨_, rfl⟩
                                                               obtain ⟨c66, hc66⟩ : ∃ c1, c1 = co67 - ((ji45) : Int).toNat := ⟨_, rfl⟩
                                                               have hy66 : y247.length = ((wrap64 (5 + (wrap64 (4 * x12_4)))) : Int).toNat - ((ji45) : Int).toNat := (by rw [Ny247.out, List.length_drop, List.length_take] <;> omega)
                                                               rw [show ((t240).take ((wrap64 (5 + (wrap64 (4 * x12_4)))) : Int).toNat).drop ((ji45) : Int).toNat = y247 from Ny247.out.symm] at hr66
                                                               replace hr66 : Kd.C k28 _ A66 y247.length y247 := (by rw [hA66]; exact hr66)
                                                               rw [← hy66, ← hA66, ← hc66] at hcut66
                                                               have HR250 := Aside0.mk hr66
                                                               have HC250 := Aside0.mk (show y247.length ≤ c66 from by rw [hy66, hc66]; exact Nat.sub_le_sub_right (Nat.le_trans (by omega) hroom66) _)
                                                               clear hr66 hC66 hroom66 hi066 hsz66 hc66
                                                               have KY66 := Aside0.mk hy66
                                                               have KA66 := Aside0.mk hA66
                                                               clear hy66 hA66
                                                               have KL66 := Aside0.mk (show ((wrap64 (5 + (wrap64 (4 * x12_4)))) : Int).toNat ≤ t240.length from by omega)
                                                               have KM66 := Aside0.mk (show ((ji45) : Int).toNat ≤ ((wrap64 (5 + (wrap64 (4 * x12_4)))) : Int).toNat from by omega)
                                                               replace q66 := eq_true q66
                                                               have p251 : 0 ≤ (0 : Int) := (by omega)
                                                               have q251 : 0 < (y247.length : Int) := of_decide_eq_true (by first | (with_reducible assumption) | assumption)
                                                               obtain ⟨ad251, e251, hx251_0, hx251_1, hx251_2⟩ := at_T28 (by repeat (first | (with_reducible exact HR250.out) | (with_reducible refine Kd.C_alloc ?_ _) | (with_reducible refine Kd.C_drewN ?_ _) | (with_reducible refine Kd.C_drew ?_) | exact HR250.out)) 0 p251 q251
                                                               cases e251
                                                               have qi251 : (0 < y247.length) = True := eq_true (by omega)
                                                               (try rw [show ((0 : Int)).toNat = 0 from rfl] at hx251_0)
                                                               (try rw [show 0 * 3 = 0 from rfl] at hx251_0)
                                                               (try rw [Addr.add_zero'] at hx251_0)
                                                               (try rw [show ((0 : Int)).toNat = 0 from rfl] at hx251_1)
                                                               (try rw [show 0 * 3 = 0 from rfl] at hx251_1)
                                                               (try rw [Addr.add_zero'] at hx251_1)
                                                               (try rw [show ((0 : Int)).toNat = 0 from rfl] at hx251_2)
                                                               (try rw [show 0 * 3 = 0 from rfl] at hx251_2)
                                                               (try rw [Addr.add_zero'] at hx251_2)
                                                               replace p251 := eq_true p251
                                                               replace q251 := eq_true q251
                                                               have p252 : 0 ≤ (0 : Int) := (by omega)
                                                               have q252 : 0 < (y247.length : Int) := of_decide_eq_true (by first | (with_reducible assumption) | assumption)
                                                               obtain ⟨ad252, e252, hx252_0, hx252_1, hx252_2⟩ := at_T28 (by repeat (first | (with_reducible exact HR250.out) | (with_reducible refine Kd.C_alloc ?_ _) | (with_reducible refine Kd.C_drewN ?_ _) | (with_reducible refine Kd.C_drew ?_) | exact HR250.out)) 0 p252 q252
                                                               obtain rfl : ad251 = ad252 := (by injection e252)
                                                               have qi252 : (0 < y247.length) = True := eq_true (by omega)
                                                               (try rw [show ((0 : Int)).toNat = 0 from rfl] at hx252_0)
                                                               (try rw [show 0 * 3 = 0 from rfl] at hx252_0)
                                                               (try rw [Addr.add_zero'] at hx252_0)
                                                               (try rw [show ((0 : Int)).toNat = 0 from rfl] at hx252_1)
                                                               (try rw [show 0 * 3 = 0 from rfl] at hx252_1)
                                                               (try rw [Addr.add_zero'] at hx252_1)
                                                               (try rw [show ((0 : Int)).toNat = 0 from rfl] at hx252_2)
                                                               (try rw [show 0 * 3 = 0 from rfl] at hx252_2)
                                                               (try rw [Addr.add_zero'] at hx252_2)
                                                               replace p252 := eq_true p252
                                                               replace q252 := eq_true q252
                                                               have p253 : 0 ≤ (1 : Int) := (by omega)
                                                               have q253 : 1 < (y247.length : Int) := of_decide_eq_true (by first | (with_reducible assumption) | assumption)
                                                               obtain ⟨ad253, e253, hx253_0, hx253_1, hx253_2⟩ := at_T28 (by repeat (first | (with_reducible exact HR250.out) | (with_reducible refine Kd.C_alloc ?_ _) | (with_reducible refine Kd.C_drewN ?_ _) | (with_reducible refine Kd.C_drew ?_) | exact HR250.out)) 1 p253 q253
                                                               obtain rfl : ad251 = ad253 := (by injection e253)
                                                               (try simp only [show (1 : Int).toNat = 1 from rfl, Nat.reduceMul, Nat.reduceEqDiff, Go.Addr.add, ↓reduceIte] at hx253_0)
                                                               (try simp only [show (1 : Int).toNat = 1 from rfl, Nat.reduceMul, Nat.reduceEqDiff, Go.Addr.add, ↓reduceIte] at hx253_1)
                                                               (try simp only [show (1 : Int).toNat = 1 from rfl, Nat.reduceMul, Nat.reduceEqDiff, Go.Addr.add, ↓reduceIte] at hx253_2)
                                                               have qi253 : (1 < y247.length) = True := eq_true (by omega)
                                                               (try rw [show ((1 : Int)).toNat = 1 from rfl] at hx253_0)
                                                               (try rw [show 1 * 3 = 3 from rfl] at hx253_0)
                                                               (try rw [show ((1 : Int)).toNat = 1 from rfl] at hx253_1)
                                                               (try rw [show 1 * 3 = 3 from rfl] at hx253_1)
                                                               (try rw [show ((1 : Int)).toNat = 1 from rfl] at hx253_2)
                                                               (try rw [show 1 * 3 = 3 from rfl] at hx253_2)
                                                               replace p253 := eq_true p253
                                                               replace q253 := eq_true q253
                                                               have p254 : 0 ≤ (2 : Int) := (by omega)
                                                               have q254 : 2 < (y247.length : Int) := of_decide_eq_true (by first | (with_reducible assumption) | assumption)
                                                               obtain ⟨ad254, e254, hx254_0, hx254_1, hx254_2⟩ := at_T28 (by repeat (first | (with_reducible exact HR250.out) | (with_reducible refine Kd.C_alloc ?_ _) | (with_reducible refine Kd.C_drewN ?_ _) | (with_reducible refine Kd.C_drew ?_) | exact HR250.out)) 2 p254 q254
                                                               obtain rfl : ad251 = ad254 := (by injection e254)
                                                               (try simp only [show (2 : Int).toNat = 2 from rfl, Nat.reduceMul, Nat.reduceEqDiff, Go.Addr.add, ↓reduceIte] at hx254_0)
                                                               (try simp only [show (2 : Int).toNat = 2 from rfl, Nat.reduceMul, Nat.reduceEqDiff, Go.Addr.add, ↓reduceIte] at hx254_1)
                                                               (try simp only [show (2 : Int).toNat = 2 from rfl, Nat.reduceMul, Nat.reduceEqDiff, Go.Addr.add, ↓reduceIte] at hx254_2)
                                                               have qi254 : (2 < y247.length) = True := eq_true (by omega)
                                                               (try rw [show ((2 : Int)).toNat = 2 from rfl] at hx254_0)
                                                               (try rw [show 2 * 3 = 6 from rfl] at hx254_0)
                                                               (try rw [show ((2 : Int)).toNat = 2 from rfl] at hx254_1)
                                                               (try rw [show 2 * 3 = 6 from rfl] at hx254_1)
                                                               (try rw [show ((2 : Int)).toNat = 2 from rfl] at hx254_2)
                                                               (try rw [show 2 * 3 = 6 from rfl] at hx254_2)
                                                               replace p254 := eq_true p254
                                                               replace q254 := eq_true q254
                                                               have p255 : 0 ≤ (2 : Int) := (by omega)
                                                               have q255 : 2 < (y247.length : Int) := of_decide_eq_true (by first | (with_reducible assumption) | assumption)
                                                               obtain ⟨ad255, e255, hx255_0, hx255_1, hx255_2⟩ := at_T28 (by repeat (first | (with_reducible exact HR250.out) | (with_reducible refine Kd.C_alloc ?_ _) | (with_reducible refine Kd.C_drewN ?_ _) | (with_reducible refine Kd.C_drew ?_) | exact HR250.out)) 2 p255 q255
                                                               obtain rfl : ad251 = ad255 := (by injection e255)
                                                               (try simp only [show (2 : Int).toNat = 2 from rfl, Nat.reduceMul, Nat.reduceEqDiff, Go.Addr.add, ↓reduceIte] at hx255_0)
                                                               (try simp only [show (2 : Int).toNat = 2 from rfl, Nat.reduceMul, Nat.reduceEqDiff, Go.Addr.add, ↓reduceIte] at hx255_1)
                                                               (try simp only [show (2 : Int).toNat = 2 from rfl, Nat.reduceMul, Nat.reduceEqDiff, Go.Addr.add, ↓reduceIte] at hx255_2)
                                                               have qi255 : (2 < y247.length) = True := eq_true (by omega)
                                                               (try rw [show ((2 : Int)).toNat = 2 from rfl] at hx255_0)
                                                               (try rw [show 2 * 3 = 6 from rfl] at hx255_0)
                                                               (try rw [show ((2 : Int)).toNat = 2 from rfl] at hx255_1)
                                                               (try rw [show 2 * 3 = 6 from rfl] at hx255_1)
                                                               (try rw [show ((2 : Int)).toNat = 2 from rfl] at hx255_2)
                                                               (try rw [show 2 * 3 = 6 from rfl] at hx255_2)
                                                               replace p255 := eq_true p255
                                                               replace q255 := eq_true q255
                                                               have p256 : 0 ≤ (x12_4 : Int) := of_decide_eq_true (by first | (with_reducible assumption) | assumption)
                                                               have q256 : x12_4 < (l0.length : Int) := of_decide_eq_true (by first | (with_reducible assumption) | assumption)
                                                               obtain ⟨ad256, e256, hx256_0⟩ := Kd.at_string HR0.out x12_4 p256 q256
                                                               cases e256
                                                               replace hx256_0 := (HB.out.cell (World.block_lt_of_cell? w _ hx256_0)).trans hx256_0
                                                               replace p256 := eq_true p256
                                                               replace q256 := eq_true q256
                                                               have p257 : 0 ≤ (3 : Int) := (by omega)
                                                               have q257 : 3 < (y247.length : Int) := of_decide_eq_true (by first | (with_reducible assumption) | assumption)
                                                               obtain ⟨ad257, e257, hx257_0, hx257_1, hx257_2⟩ := at_T28 (by repeat (first | (with_reducible exact HR250.out) | (with_reducible refine Kd.C_alloc ?_ _) | (with_reducible refine Kd.C_drewN ?_ _) | (with_reducible refine Kd.C_drew ?_) | exact HR250.out)) 3 p257 q257
                                                               obtain rfl : ad251 = ad257 := (by injection e257)
                                                               (try simp only [show (3 : Int).toNat = 3 from rfl, Nat.reduceMul, Nat.reduceEqDiff, Go.Addr.add, ↓reduceIte] at hx257_0)
                                                               (try simp only [show (3 : Int).toNat = 3 from rfl, Nat.reduceMul, Nat.reduceEqDiff, Go.Addr.add, ↓reduceIte] at hx257_1)
                                                               (try simp only [show (3 : Int).toNat = 3 from rfl, Nat.reduceMul, Nat.reduceEqDiff, Go.Addr.add, ↓reduceIte] at hx257_2)
                                                               have qi257 : (3 < y247.length) = True := eq_true (by omega)
                                                               (try rw [show ((3 : Int)).toNat = 3 from rfl] at hx257_0)
                                                               (try rw [show 3 * 3 = 9 from rfl] at hx257_0)
                                                               (try rw [show ((3 : Int)).toNat = 3 from rfl] at hx257_1)
                                                               (try rw [show 3 * 3 = 9 from rfl] at hx257_1)
                                                               (try rw [show ((3 : Int)).toNat = 3 from rfl] at hx257_2)
                                                               (try rw [show 3 * 3 = 9 from rfl] at hx257_2)
                                                               replace p257 := eq_true p257
                                                               replace q257 := eq_true q257
                                                               go_wp2
                                                               repeat (go_quiet (fail); try go_wp2)
                                                               go_ret
                                                               exact ⟨by first | rfl | (simp [errW_none, errW_some] <;> rfl) | (simp only [← hji45]; first | rfl | (simp [errW_none, errW_some] <;> rfl)) | (simp [*, errW_none, errW_some] <;> rfl), by repeat (first | (with_reducible first | exact HB.out | apply below_alloc | apply pw_below_drewN | apply below_drew1) | exact HB.out)⟩)
                                                      · rw [if_neg c59] at H
                                                        exact absurd H (by simp)
                                                    · rw [if_neg c58] at H
                                                      have c58b0 : (((rd_T28 y247 2).f1).toList == ((rdOf ByteArray.empty l0 x12_4) ++ (⟨#[120]⟩ : ByteArray)).toList) = false := beq_eq_false_iff_ne.mpr c58
                                                      have c58b1 : (((rd_T28 y247 2).f1).toList != ((rdOf ByteArray.empty l0 x12_4) ++ (⟨#[120]⟩ : ByteArray)).toList) = true := bne_iff_ne.mpr c58
                                                      first
                                                        | exact absurd (show false = true from (Option.some.inj H).trans HRT_.out) (by decide)
                                                        | (skip
                                                           obtain rfl := Option.some.inj H
                                                           obtain ⟨Ao69, co69, eo69⟩ := Kd.R_slice HO_9.out
                                                           subst eo69
                                                           have q68 : ((wrap64 (5 + (wrap64 (4 * x12_4)))) : Int) ≤ ((t240.length : Int) : Int) := of_decide_eq_true (by first | (with_reducible assumption) | assumption)
                                                           obtain ⟨i068, hi068, _, hsz68, _⟩ := info_parts info28
                                                           have hroom68 : t240.length ≤ co69 := (Kd.R_reads' HO_9.out).2.1
                                                           have hC68 : Kd.C k28 _ Ao69 t240.length t240 := (Kd.R_reads' HO_9.out).2.2
                                                           have ql68 : ((ji45) : Int) ≤ ((wrap64 (5 + (wrap64 (4 * x12_4)))) : Int) := of_decide_eq_true (by first | (with_reducible assumption) | assumption)
                                                           have q068 : (0 : Int) ≤ ((ji45) : Int) := of_decide_eq_true (by first | (with_reducible assumption) | assumption)
                                                           have hcut68 := cut_mid (P := Try.prog) 22 28 .i64 .i64 Try.underlying22 hi068 3 hsz68 Ao69 t240.length co69 (ji45) (wrap64 (5 + (wrap64 (4 * x12_4)))) q068 ql68 q68 hroom68
                                                           have hr68 := Kd.C_mid (lo := ((ji45) : Int).toNat) (hi := ((wrap64 (5 + (wrap64 (4 * x12_4)))) : Int).toNat) (c := co69) hC68 (by omega) (by omega) hroom68
                                                           obtain ⟨A68, hA68⟩ : ∃ A1, A1 = (if co69 = ((ji45) : Int).toNat then Ao69 else (Ao69 : Option Addr).map (·.add (((ji45) : Int).toNat * 3))) := ⟨_, rfl⟩
                                                           obtain ⟨c68, hc68⟩ : ∃ c1, c1 = co69 - ((ji45) : Int).toNat := ⟨_, rfl⟩
                                                           have hy68 : y247.length = ((wrap64 (5 + (wrap64 (4 * x12_4)))) : Int).toNat - ((ji45) : Int).toNat := (by rw [Ny247.out, List.length_drop, List.length_take] <;> omega)
                                                           rw [show ((t240).take ((wrap64 (5 + (wrap64 (4 * x12_4)))) : Int).toNat).drop ((ji45) : Int).toNat = y247 from Ny247.out.symm] at hr68
                                                           replace hr68 : Kd.C k28 _ A68 y247.length y247 := (by rw [hA68]; exact hr68)
                                                           rw [← hy68, ← hA68, ← hc68] at hcut68
                                                           have HR250 := Aside0.mk hr68
                                                           have HC250 := Aside0.mk (show y247.length ≤ c68 from by rw [hy68, hc68]; exact Nat.sub_le_sub_right (Nat.le_trans (by omega) hroom68) _)
                                                           clear hr68 hC68 hroom68 hi068 hsz68 hc68
                                                           have KY68 := Aside0.mk hy68
                                                           have KA68 := Aside0.mk hA68
                                                           clear hy68 hA68
                                                           have KL68 := Aside0.mk (show ((wrap64 (5 + (wrap64 (4 * x12_4)))) : Int).toNat ≤ t240.length from by omega)
                                                           have KM68 := Aside0.mk (show ((ji45) : Int).toNat ≤ ((wrap64 (5 + (wrap64 (4 * x12_4)))) : Int).toNat from by omega)
                                                           replace q68 := eq_true q68
                                                           have p251 : 0 ≤ (0 : Int) := (by omega)
                                                           have q251 : 0 < (y247.length : Int) := of_decide_eq_true (by first | (with_reducible assumption) | assumption)
                                                           obtain ⟨ad251, e251, hx251_0, hx251_1, hx251_2⟩ := at_T28 (by repeat (first | (with_reducible exact HR250.out) | (with_reducible refine Kd.C_alloc ?_ _) | (with_reducible refine Kd.C_drewN ?_ _) | (with_reducible refine Kd.C_drew ?_) | exact HR250.out)) 0 p251 q251
                                                           cases e251
                                                           have qi251 : (0 < y247.length) = True := eq_true (by omega)
                                                           (try rw [show ((0 : Int)).toNat = 0 from rfl] at hx251_0)
                                                           (try rw [show 0 * 3 = 0 from rfl] at hx251_0)
                                                           (try rw [Addr.add_zero'] at hx251_0)
                                                           (try rw [show ((0 : Int)).toNat = 0 from rfl] at hx251_1)
                                                           (try rw [show 0 * 3 = 0 from rfl] at hx251_1)
                                                           (try rw [Addr.add_zero'] at hx251_1)
                                                           (try rw [show ((0 : Int)).toNat = 0 from rfl] at hx251_2)
                                                           (try rw [show 0 * 3 = 0 from rfl] at hx251_2)
                                                           (try rw [Addr.add_zero'] at hx251_2)
                                                           replace p251 := eq_true p251
                                                           replace q251 := eq_true q251
                                                           have p252 : 0 ≤ (0 : Int) := (by omega)
                                                           have q252 : 0 < (y247.length : Int) := of_decide_eq_true (by first | (with_reducible assumption) | assumption)
                                                           obtain ⟨ad252, e252, hx252_0, hx252_1, hx252_2⟩ := at_T28 (by repeat (first | (with_reducible exact HR250.out) | (with_reducible refine Kd.C_alloc ?_ _) | (with_reducible refine Kd.C_drewN ?_ _) | (with_reducible refine Kd.C_drew ?_) | exact HR250.out)) 0 p252 q252
                                                           obtain rfl : ad251 = ad252 := (by injection e252)
                                                           have qi252 : (0 < y247.length) = True := eq_true (by omega)
                                                           (try rw [show ((0 : Int)).toNat = 0 from rfl] at hx252_0)
                                                           (try rw [show 0 * 3 = 0 from rfl] at hx252_0)
                                                           (try rw [Addr.add_zero'] at hx252_0)
                                                           (try rw [show ((0 : Int)).toNat = 0 from rfl] at hx252_1)
                                                           (try rw [show 0 * 3 = 0 from rfl] at hx252_1)
                                                           (try rw [Addr.add_zero'] at hx252_1)
                                                           (try rw [show ((0 : Int)).toNat = 0 from rfl] at hx252_2)
                                                           (try rw [show 0 * 3 = 0 from rfl] at hx252_2)
                                                           (try rw [Addr.add_zero'] at hx252_2)
                                                           replace p252 := eq_true p252
                                                           replace q252 := eq_true q252
                                                           have p253 : 0 ≤ (1 : Int) := (by omega)
                                                           have q253 : 1 < (y247.length : Int) := of_decide_eq_true (by first | (with_reducible assumption) | assumption)
                                                           obtain ⟨ad253, e253, hx253_0, hx253_1, hx253_2⟩ := at_T28 (by repeat (first | (with_reducible exact HR250.out) | (with_reducible refine Kd.C_alloc ?_ _) | (with_reducible refine Kd.C_drewN ?_ _) | (with_reducible refine Kd.C_drew ?_) | exact HR250.out)) 1 p253 q253
                                                           obtain rfl : ad251 = ad253 := (by injection e253)
                                                           (try simp only [show (1 : Int).toNat = 1 from rfl, Nat.reduceMul, Nat.reduceEqDiff, Go.Addr.add, ↓reduceIte] at hx253_0)
                                                           (try simp only [show (1 : Int).toNat = 1 from rfl, Nat.reduceMul, Nat.reduceEqDiff, Go.Addr.add, ↓reduceIte] at hx253_1)
                                                           (try simp only [show (1 : Int).toNat = 1 from rfl, Nat.reduceMul, Nat.reduceEqDiff, Go.Addr.add, ↓reduceIte] at hx253_2)
                                                           have qi253 : (1 < y247.length) = True := eq_true (by omega)
                                                           (try rw [show ((1 : Int)).toNat = 1 from rfl] at hx253_0)
                                                           (try rw [show 1 * 3 = 3 from rfl] at hx253_0)
                                                           (try rw [show ((1 : Int)).toNat = 1 from rfl] at hx253_1)
                                                           (try rw [show 1 * 3 = 3 from rfl] at hx253_1)
                                                           (try rw [show ((1 : Int)).toNat = 1 from rfl] at hx253_2)
                                                           (try rw [show 1 * 3 = 3 from rfl] at hx253_2)
                                                           replace p253 := eq_true p253
                                                           replace q253 := eq_true q253
                                                           have p254 : 0 ≤ (2 : Int) := (by omega)
                                                           have q254 : 2 < (y247.length : Int) := of_decide_eq_true (by first | (with_reducible assumption) | assumption)
                                                           obtain ⟨ad254, e254, hx254_0, hx254_1, hx254_2⟩ := at_T28 (by repeat (first | (with_reducible exact HR250.out) | (with_reducible refine Kd.C_alloc ?_ _) | (with_reducible refine Kd.C_drewN ?_ _) | (with_reducible refine Kd.C_drew ?_) | exact HR250.out)) 2 p254 q254
                                                           obtain rfl : ad251 = ad254 := (by injection e254)
                                                           (try simp only [show (2 : Int).toNat = 2 from rfl, Nat.reduceMul, Nat.reduceEqDiff, Go.Addr.add, ↓reduceIte] at hx254_0)
                                                           (try simp only [show (2 : Int).toNat = 2 from rfl, Nat.reduceMul, Nat.reduceEqDiff, Go.Addr.add, ↓reduceIte] at hx254_1)
                                                           (try simp only [show (2 : Int).toNat = 2 from rfl, Nat.reduceMul, Nat.reduceEqDiff, Go.Addr.add, ↓reduceIte] at hx254_2)
                                                           have qi254 : (2 < y247.length) = True := eq_true (by omega)
                                                           (try rw [show ((2 : Int)).toNat = 2 from rfl] at hx254_0)
                                                           (try rw [show 2 * 3 = 6 from rfl] at hx254_0)
                                                           (try rw [show ((2 : Int)).toNat = 2 from rfl] at hx254_1)
                                                           (try rw [show 2 * 3 = 6 from rfl] at hx254_1)
                                                           (try rw [show ((2 : Int)).toNat = 2 from rfl] at hx254_2)
                                                           (try rw [show 2 * 3 = 6 from rfl] at hx254_2)
                                                           replace p254 := eq_true p254
                                                           replace q254 := eq_true q254
                                                           have p255 : 0 ≤ (2 : Int) := (by omega)
                                                           have q255 : 2 < (y247.length : Int) := of_decide_eq_true (by first | (with_reducible assumption) | assumption)
                                                           obtain ⟨ad255, e255, hx255_0, hx255_1, hx255_2⟩ := at_T28 (by repeat (first | (with_reducible exact HR250.out) | (with_reducible refine Kd.C_alloc ?_ _) | (with_reducible refine Kd.C_drewN ?_ _) | (with_reducible refine Kd.C_drew ?_) | exact HR250.out)) 2 p255 q255
                                                           obtain rfl : ad251 = ad255 := (by injection e255)
                                                           (try simp only [show (2 : Int).toNat = 2 from rfl, Nat.reduceMul, Nat.reduceEqDiff, Go.Addr.add, ↓reduceIte] at hx255_0)
                                                           (try simp only [show (2 : Int).toNat = 2 from rfl, Nat.reduceMul, Nat.reduceEqDiff, Go.Addr.add, ↓reduceIte] at hx255_1)
                                                           (try simp only [show (2 : Int).toNat = 2 from rfl, Nat.reduceMul, Nat.reduceEqDiff, Go.Addr.add, ↓reduceIte] at hx255_2)
                                                           have qi255 : (2 < y247.length) = True := eq_true (by omega)
                                                           (try rw [show ((2 : Int)).toNat = 2 from rfl] at hx255_0)
                                                           (try rw [show 2 * 3 = 6 from rfl] at hx255_0)
                                                           (try rw [show ((2 : Int)).toNat = 2 from rfl] at hx255_1)
                                                           (try rw [show 2 * 3 = 6 from rfl] at hx255_1)
                                                           (try rw [show ((2 : Int)).toNat = 2 from rfl] at hx255_2)
                                                           (try rw [show 2 * 3 = 6 from rfl] at hx255_2)
                                                           replace p255 := eq_true p255
                                                           replace q255 := eq_true q255
                                                           have p256 : 0 ≤ (x12_4 : Int) := of_decide_eq_true (by first | (with_reducible assumption) | assumption)
                                                           have q256 : x12_4 < (l0.length : Int) := of_decide_eq_true (by first | (with_reducible assumption) | assumption)
                                                           obtain ⟨ad256, e256, hx256_0⟩ := Kd.at_string HR0.out x12_4 p256 q256
                                                           cases e256
                                                           replace hx256_0 := (HB.out.cell (World.block_lt_of_cell? w _ hx256_0)).trans hx256_0
                                                           replace p256 := eq_true p256
                                                           replace q256 := eq_true q256
                                                           go_wp2
                                                           repeat (go_quiet (fail); try go_wp2)
                                                           go_ret
                                                           exact ⟨by first | rfl | (simp [errW_none, errW_some] <;> rfl) | (simp only [← hji45]; first | rfl | (simp [errW_none, errW_some] <;> rfl)) | (simp [*, errW_none, errW_some] <;> rfl), by repeat (first | (with_reducible first | exact HB.out | apply below_alloc | apply pw_below_drewN | apply below_drew1) | exact HB.out)⟩)
                                                  · rw [if_neg c57] at H
                                                    exact absurd H (by simp)
                                                · rw [if_neg c56] at H
                                                  exact absurd H (by simp)
                                              · rw [if_neg c55] at H
                                                have c55b0 : (((rd_T28 y247 2).f0) == 2) = false := beq_eq_false_iff_ne.mpr c55
                                                have c55b1 : (((rd_T28 y247 2).f0) != 2) = true := bne_iff_ne.mpr c55
                                                first
                                                  | exact absurd (show false = true from (Option.some.inj H).trans HRT_.out) (by decide)
                                                  | (skip
                                                     obtain rfl := Option.some.inj H
                                                     obtain ⟨Ao71, co71, eo71⟩ := Kd.R_slice HO_9.out
                                                     subst eo71
                                                     have q70 : ((wrap64 (5 + (wrap64 (4 * x12_4)))) : Int) ≤ ((t240.length : Int) : Int) := of_decide_eq_true (by first | (with_reducible assumption) | assumption)
                                                     obtain ⟨i070, hi070, _, hsz70, _⟩ := info_parts info28
                                                     have hroom70 : t240.length ≤ co71 := (Kd.R_reads' HO_9.out).2.1
                                                     have hC70 : Kd.C k28 _ Ao71 t240.length t240 := (Kd.R_reads' HO_9.out).2.2
                                                     have ql70 : ((ji45) : Int) ≤ ((wrap64 (5 + (wrap64 (4 * x12_4)))) : Int) := of_decide_eq_true (by first | (with_reducible assumption) | assumption)
                                                     have q070 : (0 : Int) ≤ ((ji45) : Int) := of_decide_eq_true (by first | (with_reducible assumption) | assumption)
                                                     have hcut70 := cut_mid (P := Try.prog) 22 28 .i64 .i64 Try.underlying22 hi070 3 hsz70 Ao71 t240.length co71 (ji45) (wrap64 (5 + (wrap64 (4 * x12_4)))) q070 ql70 q70 hroom70
                                                     have hr70 := Kd.C_mid (lo := ((ji45) : Int).toNat) (hi := ((wrap64 (5 + (wrap64 (4 * x12_4)))) : Int).toNat) (c := co71) hC70 (by omega) (by omega) hroom70
                                                     obtain ⟨A70, hA70⟩ : ∃ A1, A1 = (if co71 = ((ji45) : Int).toNat then Ao71 else (Ao71 : Option Addr).map (·.add (((ji45) : Int).toNat * 3))) := ⟨_, rfl⟩
                                                     obtain ⟨c70, hc70⟩ : ∃ c1, c1 = co71 - ((ji45) : Int).toNat := ⟨_, rfl⟩
                                                     have hy70 : y247.length = ((wrap64 (5 + (wrap64 (4 * x12_4)))) : Int).toNat - ((ji45) : Int).toNat := (by rw [Ny247.out, List.length_drop, List.length_take] <;> omega)
                                                     rw [show ((t240).take ((wrap64 (5 + (wrap64 (4 * x12_4)))) : Int).toNat).drop ((ji45) : Int).toNat = y247 from Ny247.out.symm] at hr70
                                                     replace hr70 : Kd.C k28 _ A70 y247.length y247 := (by rw [hA70]; exact hr70)
                                                     rw [← hy70, ← hA70, ← hc70] at hcut70
                                                     have HR250 := Aside0.mk hr70
                                                     have HC250 := Aside0.mk (show y247.length ≤ c70 from by rw [hy70, hc70]; exact Nat.sub_le_sub_right (Nat.le_trans (by omega) hroom70) _)
                                                     clear hr70 hC70 hroom70 hi070 hsz70 hc70
                                                     have KY70 := Aside0.mk hy70
                                                     have KA70 := Aside0.mk hA70
                                                     clear hy70 hA70
                                                     have KL70 := Aside0.mk (show ((wrap64 (5 + (wrap64 (4 * x12_4)))) : Int).toNat ≤ t240.length from by omega)
                                                     have KM70 := Aside0.mk (show ((ji45) : Int).toNat ≤ ((wrap64 (5 + (wrap64 (4 * x12_4)))) : Int).toNat from by omega)
                                                     replace q70 := eq_true q70
                                                     have p251 : 0 ≤ (0 : Int) := (by omega)
                                                     have q251 : 0 < (y247.length : Int) := of_decide_eq_true (by first | (with_reducible assumption) | assumption)
                                                     obtain ⟨ad251, e251, hx251_0, hx251_1, hx251_2⟩ := at_T28 (by repeat (first | (with_reducible exact HR250.out) | (with_reducible refine Kd.C_alloc ?_ _) | (with_reducible refine Kd.C_drewN ?_ _) | (with_reducible refine Kd.C_drew ?_) | exact HR250.out)) 0 p251 q251
                                                     cases e251
                                                     have qi251 : (0 < y247.length) = True := eq_true (by omega)
                                                     (try rw [show ((0 : Int)).toNat = 0 from rfl] at hx251_0)
                                                     (try rw [show 0 * 3 = 0 from rfl] at hx251_0)
                                                     (try rw [Addr.add_zero'] at hx251_0)
                                                     (try rw [show ((0 : Int)).toNat = 0 from rfl] at hx251_1)
                                                     (try rw [show 0 * 3 = 0 from rfl] at hx251_1)
                                                     (try rw [Addr.add_zero'] at hx251_1)
                                                     (try rw [show ((0 : Int)).toNat = 0 from rfl] at hx251_2)
                                                     (try rw [show 0 * 3 = 0 from rfl] at hx251_2)
                                                     (try rw [Addr.add_zero'] at hx251_2)
                                                     replace p251 := eq_true p251
                                                     replace q251 := eq_true q251
                                                     have p252 : 0 ≤ (0 : Int) := (by omega)
                                                     have q252 : 0 < (y247.length : Int) := of_decide_eq_true (by first | (with_reducible assumption) | assumption)
                                                     obtain ⟨ad252, e252, hx252_0, hx252_1, hx252_2⟩ := at_T28 (by repeat (first | (with_reducible exact HR250.out) | (with_reducible refine Kd.C_alloc ?_ _) | (with_reducible refine Kd.C_drewN ?_ _) | (with_reducible refine Kd.C_drew ?_) | exact HR250.out)) 0 p252 q252
                                                     obtain rfl : ad251 = ad252 := (by injection e252)
                                                     have qi252 : (0 < y247.length) = True := eq_true (by omega)
                                                     (try rw [show ((0 : Int)).toNat = 0 from rfl] at hx252_0)
                                                     (try rw [show 0 * 3 = 0 from rfl] at hx252_0)
                                                     (try rw [Addr.add_zero'] at hx252_0)
                                                     (try rw [show ((0 : Int)).toNat = 0 from rfl] at hx252_1)
                                                     (try rw [show 0 * 3 = 0 from rfl] at hx252_1)
                                                     (try rw [Addr.add_zero'] at hx252_1)
                                                     (try rw [show ((0 : Int)).toNat = 0 from rfl] at hx252_2)
                                                     (try rw [show 0 * 3 = 0 from rfl] at hx252_2)
                                                     (try rw [Addr.add_zero'] at hx252_2)
                                                     replace p252 := eq_true p252
                                                     replace q252 := eq_true q252
                                                     have p253 : 0 ≤ (1 : Int) := (by omega)
                                                     have q253 : 1 < (y247.length : Int) := of_decide_eq_true (by first | (with_reducible assumption) | assumption)
                                                     obtain ⟨ad253, e253, hx253_0, hx253_1, hx253_2⟩ := at_T28 (by repeat (first | (with_reducible exact HR250.out) | (with_reducible refine Kd.C_alloc ?_ _) | (with_reducible refine Kd.C_drewN ?_ _) | (with_reducible refine Kd.C_drew ?_) | exact HR250.out)) 1 p253 q253
                                                     obtain rfl : ad251 = ad253 := (by injection e253)
                                                     (try simp only [show (1 : Int).toNat = 1 from rfl, Nat.reduceMul, Nat.reduceEqDiff, Go.Addr.add, ↓reduceIte] at hx253_0)
                                                     (try simp only [show (1 : Int).toNat = 1 from rfl, Nat.reduceMul, Nat.reduceEqDiff, Go.Addr.add, ↓reduceIte] at hx253_1)
                                                     (try simp only [show (1 : Int).toNat = 1 from rfl, Nat.reduceMul, Nat.reduceEqDiff, Go.Addr.add, ↓reduceIte] at hx253_2)
                                                     have qi253 : (1 < y247.length) = True := eq_true (by omega)
                                                     (try rw [show ((1 : Int)).toNat = 1 from rfl] at hx253_0)
                                                     (try rw [show 1 * 3 = 3 from rfl] at hx253_0)
                                                     (try rw [show ((1 : Int)).toNat = 1 from rfl] at hx253_1)
                                                     (try rw [show 1 * 3 = 3 from rfl] at hx253_1)
                                                     (try rw [show ((1 : Int)).toNat = 1 from rfl] at hx253_2)
                                                     (try rw [show 1 * 3 = 3 from rfl] at hx253_2)
                                                     replace p253 := eq_true p253
                                                     replace q253 := eq_true q253
                                                     have p254 : 0 ≤ (2 : Int) := (by omega)
                                                     have q254 : 2 < (y247.length : Int) := of_decide_eq_true (by first | (with_reducible assumption) | assumption)
                                                     obtain ⟨ad254, e254, hx254_0, hx254_1, hx254_2⟩ := at_T28 (by repeat (first | (with_reducible exact HR250.out) | (with_reducible refine Kd.C_alloc ?_ _) | (with_reducible refine Kd.C_drewN ?_ _) | (with_reducible refine Kd.C_drew ?_) | exact HR250.out)) 2 p254 q254
                                                     obtain rfl : ad251 = ad254 := (by injection e254)
                                                     (try simp only [show (2 : Int).toNat = 2 from rfl, Nat.reduceMul, Nat.reduceEqDiff, Go.Addr.add, ↓reduceIte] at hx254_0)
                                                     (try simp only [show (2 : Int).toNat = 2 from rfl, Nat.reduceMul, Nat.reduceEqDiff, Go.Addr.add, ↓reduceIte] at hx254_1)
                                                     (try simp only [show (2 : Int).toNat = 2 from rfl, Nat.reduceMul, Nat.reduceEqDiff, Go.Addr.add, ↓reduceIte] at hx254_2)
                                                     have qi254 : (2 < y247.length) = True := eq_true (by omega)
                                                     (try rw [show ((2 : Int)).toNat = 2 from rfl] at hx254_0)
                                                     (try rw [show 2 * 3 = 6 from rfl] at hx254_0)
                                                     (try rw [show ((2 : Int)).toNat = 2 from rfl] at hx254_1)
                                                     (try rw [show 2 * 3 = 6 from rfl] at hx254_1)
                                                     (try rw [show ((2 : Int)).toNat = 2 from rfl] at hx254_2)
                                                     (try rw [show 2 * 3 = 6 from rfl] at hx254_2)
                                                     replace p254 := eq_true p254
                                                     replace q254 := eq_true q254
                                                     go_wp2
                                                     repeat (go_quiet (fail); try go_wp2)
                                                     go_ret
                                                     exact ⟨by first | rfl | (simp [errW_none, errW_some] <;> rfl) | (simp only [← hji45]; first | rfl | (simp [errW_none, errW_some] <;> rfl)) | (simp [*, errW_none, errW_some] <;> rfl), by repeat (first | (with_reducible first | exact HB.out | apply below_alloc | apply pw_below_drewN | apply below_drew1) | exact HB.out)⟩)
                                            · rw [if_neg c54] at H
                                              exact absurd H (by simp)
                                          · rw [if_neg c53] at H
                                            have c53b0 : (((rd_T28 y247 1).f0) == 7) = false := beq_eq_false_iff_ne.mpr c53
                                            have c53b1 : (((rd_T28 y247 1).f0) != 7) = true := bne_iff_ne.mpr c53
                                            first
                                              | exact absurd (show false = true from (Option.some.inj H).trans HRT_.out) (by decide)
                                              | (skip
                                                 obtain rfl := Option.some.inj H
                                                 obtain ⟨Ao73, co73, eo73⟩ := Kd.R_slice HO_9.out
                                                 subst eo73
                                                 have q72 : ((wrap64 (5 + (wrap64 (4 * x12_4)))) : Int) ≤ ((t240.length : Int) : Int) := of_decide_eq_true (by first | (with_reducible assumption) | assumption)
                                                 obtain ⟨i072, hi072, _, hsz72, _⟩ := info_parts info28
                                                 have hroom72 : t240.length ≤ co73 := (Kd.R_reads' HO_9.out).2.1
                                                 have hC72 : Kd.C k28 _ Ao73 t240.length t240 := (Kd.R_reads' HO_9.out).2.2
                                                 have ql72 : ((ji45) : Int) ≤ ((wrap64 (5 + (wrap64 (4 * x12_4)))) : Int) := of_decide_eq_true (by first | (with_reducible assumption) | assumption)
                                                 have q072 : (0 : Int) ≤ ((ji45) : Int) := of_decide_eq_true (by first | (with_reducible assumption) | assumption)
                                                 have hcut72 := cut_mid (P := Try.prog) 22 28 .i64 .i64 Try.underlying22 hi072 3 hsz72 Ao73 t240.length co73 (ji45) (wrap64 (5 + (wrap64 (4 * x12_4)))) q072 ql72 q72 hroom72
                                                 have hr72 := Kd.C_mid (lo := ((ji45) : Int).toNat) (hi := ((wrap64 (5 + (wrap64 (4 * x12_4)))) : Int).toNat) (c := co73) hC72 (by omega) (by omega) hroom72
                                                 obtain ⟨A72, hA72⟩ : ∃ A1, A1 = (if co73 = ((ji45) : Int).toNat then Ao73 else (Ao73 : Option Addr).map (·.add (((ji45) : Int).toNat * 3))) := ⟨_, rfl⟩
                                                 obtain ⟨c72, hc72⟩ : ∃ c1, c1 = co73 - ((ji45) : Int).toNat := ⟨_, rfl⟩
                                                 have hy72 : y247.length = ((wrap64 (5 + (wrap64 (4 * x12_4)))) : Int).toNat - ((ji45) : Int).toNat := (by rw [Ny247.out, List.length_drop, List.length_take] <;> omega)
                                                 rw [show ((t240).take ((wrap64 (5 + (wrap64 (4 * x12_4)))) : Int).toNat).drop ((ji45) : Int).toNat = y247 from Ny247.out.symm] at hr72
                                                 replace hr72 : Kd.C k28 _ A72 y247.length y247 := (by rw [hA72]; exact hr72)
                                                 rw [← hy72, ← hA72, ← hc72] at hcut72
                                                 have HR250 := Aside0.mk hr72
                                                 have HC250 := Aside0.mk (show y247.length ≤ c72 from by rw [hy72, hc72]; exact Nat.sub_le_sub_right (Nat.le_trans (by omega) hroom72) _)
                                                 clear hr72 hC72 hroom72 hi072 hsz72 hc72
                                                 have KY72 := Aside0.mk hy72
                                                 have KA72 := Aside0.mk hA72
                                                 clear hy72 hA72
                                                 have KL72 := Aside0.mk (show ((wrap64 (5 + (wrap64 (4 * x12_4)))) : Int).toNat ≤ t240.length from by omega)
                                                 have KM72 := Aside0.mk (show ((ji45) : Int).toNat ≤ ((wrap64 (5 + (wrap64 (4 * x12_4)))) : Int).toNat from by omega)
                                                 replace q72 := eq_true q72
                                                 have p251 : 0 ≤ (0 : Int) := (by omega)
                                                 have q251 : 0 < (y247.length : Int) := of_decide_eq_true (by first | (with_reducible assumption) | assumption)
                                                 obtain ⟨ad251, e251, hx251_0, hx251_1, hx251_2⟩ := at_T28 (by repeat (first | (with_reducible exact HR250.out) | (with_reducible refine Kd.C_alloc ?_ _) | (with_reducible refine Kd.C_drewN ?_ _) | (with_reducible refine Kd.C_drew ?_) | exact HR250.out)) 0 p251 q251
                                                 cases e251
                                                 have qi251 : (0 < y247.length) = True := eq_true (by omega)
                                                 (try rw [show ((0 : Int)).toNat = 0 from rfl] at hx251_0)
                                                 (try rw [show 0 * 3 = 0 from rfl] at hx251_0)
                                                 (try rw [Addr.add_zero'] at hx251_0)
                                                 (try rw [show ((0 : Int)).toNat = 0 from rfl] at hx251_1)
                                                 (try rw [show 0 * 3 = 0 from rfl] at hx251_1)
                                                 (try rw [Addr.add_zero'] at hx251_1)
                                                 (try rw [show ((0 : Int)).toNat = 0 from rfl] at hx251_2)
                                                 (try rw [show 0 * 3 = 0 from rfl] at hx251_2)
                                                 (try rw [Addr.add_zero'] at hx251_2)
                                                 replace p251 := eq_true p251
                                                 replace q251 := eq_true q251
                                                 have p252 : 0 ≤ (0 : Int) := (by omega)
                                                 have q252 : 0 < (y247.length : Int) := of_decide_eq_true (by first | (with_reducible assumption) | assumption)
                                                 obtain ⟨ad252, e252, hx252_0, hx252_1, hx252_2⟩ := at_T28 (by repeat (first | (with_reducible exact HR250.out) | (with_reducible refine Kd.C_alloc ?_ _) | (with_reducible refine Kd.C_drewN ?_ _) | (with_reducible refine Kd.C_drew ?_) | exact HR250.out)) 0 p252 q252
                                                 obtain rfl : ad251 = ad252 := (by injection e252)
                                                 have qi252 : (0 < y247.length) = True := eq_true (by omega)
                                                 (try rw [show ((0 : Int)).toNat = 0 from rfl] at hx252_0)
                                                 (try rw [show 0 * 3 = 0 from rfl] at hx252_0)
                                                 (try rw [Addr.add_zero'] at hx252_0)
                                                 (try rw [show ((0 : Int)).toNat = 0 from rfl] at hx252_1)
                                                 (try rw [show 0 * 3 = 0 from rfl] at hx252_1)
                                                 (try rw [Addr.add_zero'] at hx252_1)
                                                 (try rw [show ((0 : Int)).toNat = 0 from rfl] at hx252_2)
                                                 (try rw [show 0 * 3 = 0 from rfl] at hx252_2)
                                                 (try rw [Addr.add_zero'] at hx252_2)
                                                 replace p252 := eq_true p252
                                                 replace q252 := eq_true q252
                                                 have p253 : 0 ≤ (1 : Int) := (by omega)
                                                 have q253 : 1 < (y247.length : Int) := of_decide_eq_true (by first | (with_reducible assumption) | assumption)
                                                 obtain ⟨ad253, e253, hx253_0, hx253_1, hx253_2⟩ := at_T28 (by repeat (first | (with_reducible exact HR250.out) | (with_reducible refine Kd.C_alloc ?_ _) | (with_reducible refine Kd.C_drewN ?_ _) | (with_reducible refine Kd.C_drew ?_) | exact HR250.out)) 1 p253 q253
                                                 obtain rfl : ad251 = ad253 := (by injection e253)
                                                 (try simp only [show (1 : Int).toNat = 1 from rfl, Nat.reduceMul, Nat.reduceEqDiff, Go.Addr.add, ↓reduceIte] at hx253_0)
                                                 (try simp only [show (1 : Int).toNat = 1 from rfl, Nat.reduceMul, Nat.reduceEqDiff, Go.Addr.add, ↓reduceIte] at hx253_1)
                                                 (try simp only [show (1 : Int).toNat = 1 from rfl, Nat.reduceMul, Nat.reduceEqDiff, Go.Addr.add, ↓reduceIte] at hx253_2)
                                                 have qi253 : (1 < y247.length) = True := eq_true (by omega)
                                                 (try rw [show ((1 : Int)).toNat = 1 from rfl] at hx253_0)
                                                 (try rw [show 1 * 3 = 3 from rfl] at hx253_0)
                                                 (try rw [show ((1 : Int)).toNat = 1 from rfl] at hx253_1)
                                                 (try rw [show 1 * 3 = 3 from rfl] at hx253_1)
                                                 (try rw [show ((1 : Int)).toNat = 1 from rfl] at hx253_2)
                                                 (try rw [show 1 * 3 = 3 from rfl] at hx253_2)
                                                 replace p253 := eq_true p253
                                                 replace q253 := eq_true q253
                                                 go_wp2
                                                 repeat (go_quiet (fail); try go_wp2)
                                                 go_ret
                                                 exact ⟨by first | rfl | (simp [errW_none, errW_some] <;> rfl) | (simp only [← hji45]; first | rfl | (simp [errW_none, errW_some] <;> rfl)) | (simp [*, errW_none, errW_some] <;> rfl), by repeat (first | (with_reducible first | exact HB.out | apply below_alloc | apply pw_below_drewN | apply below_drew1) | exact HB.out)⟩)
                                        · rw [if_neg c52] at H
                                          exact absurd H (by simp)
                                      · rw [if_neg c51] at H
                                        have c51b0 : (((rd_T28 y247 0).f1).toList == ([112] : List UInt8)) = false := beq_eq_false_iff_ne.mpr c51
                                        have c51b1 : (((rd_T28 y247 0).f1).toList != ([112] : List UInt8)) = true := bne_iff_ne.mpr c51
                                        first
                                          | exact absurd (show false = true from (Option.some.inj H).trans HRT_.out) (by decide)
                                          | (skip
                                             obtain rfl := Option.some.inj H
                                             obtain ⟨Ao75, co75, eo75⟩ := Kd.R_slice HO_9.out
                                             subst eo75
                                             have q74 : ((wrap64 (5 + (wrap64 (4 * x12_4)))) : Int) ≤ ((t240.length : Int) : Int) := of_decide_eq_true (by first | (with_reducible assumption) | assumption)
                                             obtain ⟨i074, hi074, _, hsz74, _⟩ := info_parts info28
                                             have hroom74 : t240.length ≤ co75 := (Kd.R_reads' HO_9.out).2.1
                                             have hC74 : Kd.C k28 _ Ao75 t240.length t240 := (Kd.R_reads' HO_9.out).2.2
                                             have ql74 : ((ji45) : Int) ≤ ((wrap64 (5 + (wrap64 (4 * x12_4)))) : Int) := of_decide_eq_true (by first | (with_reducible assumption) | assumption)
                                             have q074 : (0 : Int) ≤ ((ji45) : Int) := of_decide_eq_true (by first | (with_reducible assumption) | assumption)
                                             have hcut74 := cut_mid (P := Try.prog) 22 28 .i64 .i64 Try.underlying22 hi074 3 hsz74 Ao75 t240.length co75 (ji45) (wrap64 (5 + (wrap64 (4 * x12_4)))) q074 ql74 q74 hroom74
                                             have hr74 := Kd.C_mid (lo := ((ji45) : Int).toNat) (hi := ((wrap64 (5 + (wrap64 (4 * x12_4)))) : Int).toNat) (c := co75) hC74 (by omega) (by omega) hroom74
                                             obtain ⟨A74, hA74⟩ : ∃ A1, A1 = (if co75 = ((ji45) : Int).toNat then Ao75 else (Ao75 : Option Addr).map (·.add (((ji45) : Int).toNat * 3))) := ⟨_, rfl⟩
                                             obtain ⟨c74, hc74⟩ : ∃ c1, c1 = co75 - ((ji45) : Int).toNat := ⟨_, rfl⟩
                                             have hy74 : y247.length = ((wrap64 (5 + (wrap64 (4 * x12_4)))) : Int).toNat - ((ji45) : Int).toNat := (by rw [Ny247.out, List.length_drop, List.length_take] <;> omega)
                                             rw [show ((t240).take ((wrap64 (5 + (wrap64 (4 * x12_4)))) : Int).toNat).drop ((ji45) : Int).toNat = y247 from Ny247.out.symm] at hr74
                                             replace hr74 : Kd.C k28 _ A74 y247.length y247 := (by rw [hA74]; exact hr74)
                                             rw [← hy74, ← hA74, ← hc74] at hcut74
                                             have HR250 := Aside0.mk hr74
                                             have HC250 := Aside0.mk (show y247.length ≤ c74 from by rw [hy74, hc74]; exact Nat.sub_le_sub_right (Nat.le_trans (by omega) hroom74) _)
                                             clear hr74 hC74 hroom74 hi074 hsz74 hc74
                                             have KY74 := Aside0.mk hy74
                                             have KA74 := Aside0.mk hA74
                                             clear hy74 hA74
                                             have KL74 := Aside0.mk (show ((wrap64 (5 + (wrap64 (4 * x12_4)))) : Int).toNat ≤ t240.length from by omega)
                                             have KM74 := Aside0.mk (show ((ji45) : Int).toNat ≤ ((wrap64 (5 + (wrap64 (4 * x12_4)))) : Int).toNat from by omega)
                                             replace q74 := eq_true q74
                                             have p251 : 0 ≤ (0 : Int) := (by omega)
                                             have q251 : 0 < (y247.length : Int) := of_decide_eq_true (by first | (with_reducible assumption) | assumption)
                                             obtain ⟨ad251, e251, hx251_0, hx251_1, hx251_2⟩ := at_T28 (by repeat (first | (with_reducible exact HR250.out) | (with_reducible refine Kd.C_alloc ?_ _) | (with_reducible refine Kd.C_drewN ?_ _) | (with_reducible refine Kd.C_drew ?_) | exact HR250.out)) 0 p251 q251
                                             cases e251
                                             have qi251 : (0 < y247.length) = True := eq_true (by omega)
                                             (try rw [show ((0 : Int)).toNat = 0 from rfl] at hx251_0)
                                             (try rw [show 0 * 3 = 0 from rfl] at hx251_0)
                                             (try rw [Addr.add_zero'] at hx251_0)
                                             (try rw [show ((0 : Int)).toNat = 0 from rfl] at hx251_1)
                                             (try rw [show 0 * 3 = 0 from rfl] at hx251_1)
                                             (try rw [Addr.add_zero'] at hx251_1)
                                             (try rw [show ((0 : Int)).toNat = 0 from rfl] at hx251_2)
                                             (try rw [show 0 * 3 = 0 from rfl] at hx251_2)
                                             (try rw [Addr.add_zero'] at hx251_2)
                                             replace p251 := eq_true p251
                                             replace q251 := eq_true q251
                                             have p252 : 0 ≤ (0 : Int) := (by omega)
                                             have q252 : 0 < (y247.length : Int) := of_decide_eq_true (by first | (with_reducible assumption) | assumption)
                                             obtain ⟨ad252, e252, hx252_0, hx252_1, hx252_2⟩ := at_T28 (by repeat (first | (with_reducible exact HR250.out) | (with_reducible refine Kd.C_alloc ?_ _) | (with_reducible refine Kd.C_drewN ?_ _) | (with_reducible refine Kd.C_drew ?_) | exact HR250.out)) 0 p252 q252
                                             obtain rfl : ad251 = ad252 := (by injection e252)
                                             have qi252 : (0 < y247.length) = True := eq_true (by omega)
                                             (try rw [show ((0 : Int)).toNat = 0 from rfl] at hx252_0)
                                             (try rw [show 0 * 3 = 0 from rfl] at hx252_0)
                                             (try rw [Addr.add_zero'] at hx252_0)
                                             (try rw [show ((0 : Int)).toNat = 0 from rfl] at hx252_1)
                                             (try rw [show 0 * 3 = 0 from rfl] at hx252_1)
                                             (try rw [Addr.add_zero'] at hx252_1)
                                             (try rw [show ((0 : Int)).toNat = 0 from rfl] at hx252_2)
                                             (try rw [show 0 * 3 = 0 from rfl] at hx252_2)
                                             (try rw [Addr.add_zero'] at hx252_2)
                                             replace p252 := eq_true p252
                                             replace q252 := eq_true q252
                                             go_wp2
                                             repeat (go_quiet (fail); try go_wp2)
                                             go_ret
                                             exact ⟨by first | rfl | (simp [errW_none, errW_some] <;> rfl) | (simp only [← hji45]; first | rfl | (simp [errW_none, errW_some] <;> rfl)) | (simp [*, errW_none, errW_some] <;> rfl), by repeat (first | (with_reducible first | exact HB.out | apply below_alloc | apply pw_below_drewN | apply below_drew1) | exact HB.out)⟩)
                                    · rw [if_neg c50] at H
                                      have c50b0 : (((rd_T28 y247 0).f0) == 6) = false := beq_eq_false_iff_ne.mpr c50
                                      have c50b1 : (((rd_T28 y247 0).f0) != 6) = true := bne_iff_ne.mpr c50
                                      first
                                        | exact absurd (show false = true from (Option.some.inj H).trans HRT_.out) (by decide)
                                        | (skip
                                           obtain rfl := Option.some.inj H
                                           obtain ⟨Ao77, co77, eo77⟩ := Kd.R_slice HO_9.out
                                           subst eo77
                                           have q76 : ((wrap64 (5 + (wrap64 (4 * x12_4)))) : Int) ≤ ((t240.length : Int) : Int) := of_decide_eq_true (by first | (with_reducible assumption) | assumption)
                                           obtain ⟨i076, hi076, _, hsz76, _⟩ := info_parts info28
                                           have hroom76 : t240.length ≤ co77 := (Kd.R_reads' HO_9.out).2.1
                                           have hC76 : Kd.C k28 _ Ao77 t240.length t240 := (Kd.R_reads' HO_9.out).2.2
                                           have ql76 : ((ji45) : Int) ≤ ((wrap64 (5 + (wrap64 (4 * x12_4)))) : Int) := of_decide_eq_true (by first | (with_reducible assumption) | assumption)
                                           have q076 : (0 : Int) ≤ ((ji45) : Int) := of_decide_eq_true (by first | (with_reducible assumption) | assumption)
                                           have hcut76 := cut_mid (P := Try.prog) 22 28 .i64 .i64 Try.underlying22 hi076 3 hsz76 Ao77 t240.length co77 (ji45) (wrap64 (5 + (wrap64 (4 * x12_4)))) q076 ql76 q76 hroom76
                                           have hr76 := Kd.C_mid (lo := ((ji45) : Int).toNat) (hi := ((wrap64 (5 + (wrap64 (4 * x12_4)))) : Int).toNat) (c := co77) hC76 (by omega) (by omega) hroom76
                                           obtain ⟨A76, hA76⟩ : ∃ A1, A1 = (if co77 = ((ji45) : Int).toNat then Ao77 else (Ao77 : Option Addr).map (·.add (((ji45) : Int).toNat * 3))) := ⟨_, rfl⟩
                                           obtain ⟨c76, hc76⟩ : ∃ c1, c1 = co77 - ((ji45) : Int).toNat := ⟨_, rfl⟩
                                           have hy76 : y247.length = ((wrap64 (5 + (wrap64 (4 * x12_4)))) : Int).toNat - ((ji45) : Int).toNat := (by rw [Ny247.out, List.length_drop, List.length_take] <;> omega)
                                           rw [show ((t240).take ((wrap64 (5 + (wrap64 (4 * x12_4)))) : Int).toNat).drop ((ji45) : Int).toNat = y247 from Ny247.out.symm] at hr76
                                           replace hr76 : Kd.C k28 _ A76 y247.length y247 := (by rw [hA76]; exact hr76)
                                           rw [← hy76, ← hA76, ← hc76] at hcut76
                                           have HR250 := Aside0.mk hr76
                                           have HC250 := Aside0.mk (show y247.length ≤ c76 from by rw [hy76, hc76]; exact Nat.sub_le_sub_right (Nat.le_trans (by omega) hroom76) _)
                                           clear hr76 hC76 hroom76 hi076 hsz76 hc76
                                           have KY76 := Aside0.mk hy76
                                           have KA76 := Aside0.mk hA76
                                           clear hy76 hA76
                                           have KL76 := Aside0.mk (show ((wrap64 (5 + (wrap64 (4 * x12_4)))) : Int).toNat ≤ t240.length from by omega)
                                           have KM76 := Aside0.mk (show ((ji45) : Int).toNat ≤ ((wrap64 (5 + (wrap64 (4 * x12_4)))) : Int).toNat from by omega)
                                           replace q76 := eq_true q76
                                           have p251 : 0 ≤ (0 : Int) := (by omega)
                                           have q251 : 0 < (y247.length : Int) := of_decide_eq_true (by first | (with_reducible assumption) | assumption)
                                           obtain ⟨ad251, e251, hx251_0, hx251_1, hx251_2⟩ := at_T28 (by repeat (first | (with_reducible exact HR250.out) | (with_reducible refine Kd.C_alloc ?_ _) | (with_reducible refine Kd.C_drewN ?_ _) | (with_reducible refine Kd.C_drew ?_) | exact HR250.out)) 0 p251 q251
                                           cases e251
                                           have qi251 : (0 < y247.length) = True := eq_true (by omega)
                                           (try rw [show ((0 : Int)).toNat = 0 from rfl] at hx251_0)
                                           (try rw [show 0 * 3 = 0 from rfl] at hx251_0)
                                           (try rw [Addr.add_zero'] at hx251_0)
                                           (try rw [show ((0 : Int)).toNat = 0 from rfl] at hx251_1)
                                           (try rw [show 0 * 3 = 0 from rfl] at hx251_1)
                                           (try rw [Addr.add_zero'] at hx251_1)
                                           (try rw [show ((0 : Int)).toNat = 0 from rfl] at hx251_2)
                                           (try rw [show 0 * 3 = 0 from rfl] at hx251_2)
                                           (try rw [Addr.add_zero'] at hx251_2)
                                           replace p251 := eq_true p251
                                           replace q251 := eq_true q251
                                           go_wp2
                                           repeat (go_quiet (fail); try go_wp2)
                                           go_ret
                                           exact ⟨by first | rfl | (simp [errW_none, errW_some] <;> rfl) | (simp only [← hji45]; first | rfl | (simp [errW_none, errW_some] <;> rfl)) | (simp [*, errW_none, errW_some] <;> rfl), by repeat (first | (with_reducible first | exact HB.out | apply below_alloc | apply pw_below_drewN | apply below_drew1) | exact HB.out)⟩)
                                  · rw [if_neg c49] at H
                                    exact absurd H (by simp)
                                · rw [if_neg c48] at H
                                  exact absurd H (by simp)
                              · rw [if_neg c47] at H
                                exact absurd H (by simp)
                            · rw [if_neg c46] at H
                              exact absurd H (by simp)
                          · rw [if_neg c44] at H
                            have c44b0 : decide (x12_4 < (l0.length : Int)) = false := decide_eq_false c44
                            clear c44
                            replace H := Option.bind_eq_some_iff.mp H
                            obtain ⟨t259, A780, H⟩ := H
                            replace H : (some t259) = some r := H
                            have A78 := Aside0.mk A780
                            clear A780
                            first
                              | exact absurd (show false = true from (Option.some.inj H).trans HRT_.out) (by decide)
                              | (skip
                                 obtain rfl := Option.some.inj H
                                 go_wp2_with (first | (go_at_call 10; (with_reducible refine (pantrylaw22_known.calls k4  t259 _ A78.out).mono ?_); rintro e w79 ⟨rfl, hb⟩; have n0_ := Aside0.mk (Kd.R_below (by (with_reducible repeat (first | apply Kd.R_alloc | apply Kd.R_drewN | apply Kd.R_drew)); exact HO_9.out) hb); have n1_ := Aside0.mk (below_step (by repeat (first | (with_reducible first | exact HB.out | apply below_alloc | apply pw_below_drewN | apply below_drew1) | exact HB.out)) hb); clear HO_9; clear HB; have HO_9 := n0_; have HB := n1_; clear n0_ n1_; (try clear hb); (try clear hb2); (try clear hk); (try clear hi)))
                                 repeat (go_quiet (first | (go_at_call 10; (with_reducible refine (pantrylaw22_known.calls k4  t259 _ A78.out).mono ?_); rintro e w79 ⟨rfl, hb⟩; have n0_ := Aside0.mk (Kd.R_below (by (with_reducible repeat (first | apply Kd.R_alloc | apply Kd.R_drewN | apply Kd.R_drew)); exact HO_9.out) hb); have n1_ := Aside0.mk (below_step (by repeat (first | (with_reducible first | exact HB.out | apply below_alloc | apply pw_below_drewN | apply below_drew1) | exact HB.out)) hb); clear HO_9; clear HB; have HO_9 := n0_; have HB := n1_; clear n0_ n1_; (try clear hb); (try clear hb2); (try clear hk); (try clear hi))); try go_wp2_with (first | (go_at_call 10; (with_reducible refine (pantrylaw22_known.calls k4  t259 _ A78.out).mono ?_); rintro e w79 ⟨rfl, hb⟩; have n0_ := Aside0.mk (Kd.R_below (by (with_reducible repeat (first | apply Kd.R_alloc | apply Kd.R_drewN | apply Kd.R_drew)); exact HO_9.out) hb); have n1_ := Aside0.mk (below_step (by repeat (first | (with_reducible first | exact HB.out | apply below_alloc | apply pw_below_drewN | apply below_drew1) | exact HB.out)) hb); clear HO_9; clear HB; have HO_9 := n0_; have HB := n1_; clear n0_ n1_; (try clear hb); (try clear hb2); (try clear hk); (try clear hi))))
                                 go_ret
                                 exact ⟨by first | rfl | (simp [errW_none, errW_some] <;> rfl) | (simp [*, errW_none, errW_some] <;> rfl), by repeat (first | (with_reducible first | exact HB.out | apply below_alloc | apply pw_below_drewN | apply below_drew1) | exact HB.out)⟩)
              · rw [if_neg c29] at H
                exact absurd H (by simp)

end Go.Proofs.Ytgenfggjonhmgaa.Mm
