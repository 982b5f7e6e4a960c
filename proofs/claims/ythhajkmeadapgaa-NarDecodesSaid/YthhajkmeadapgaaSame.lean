/- Rows of bytes that are held against each other; bytes with room behind them. Own work. -/
import Derived.Test.YthhajkmeadapgaaMn5
import Derived.Test.YthhajkmeadapgaaPL
namespace Go.Proofs.Ythhajkmeadapgaa.Pure
set_option linter.unusedVariables false
open Go.RowKit Go.Proofs.Ythhajkmeadapgaa.Mn Go.Proofs.Ythhajkmeadapgaa.PL Go.Proofs.YthhajkmeadapgaaW.PrintWords Go.Proofs.YthhajkmeadapgaaW.PrintLast Go.Proofs.YthhajkmeadapgaaW.PrintMore

theorem wsucc {n : Nat} (h : n < 9223372036854775807) : wrap64 ((n : Int) + 1) = ((n + 1 : Nat) : Int) := by rw [w64 (by omega) (by omega)]; omega
theorem same_l0 (l m : List Int) (hlen : l.length = m.length) (hb : l.length < 9223372036854775807) : ∀ (d i k : Nat), i + d = l.length → d < k →
    pantrylaw5_same.l0 k l m (i : Int) = some (decide (l.drop i = m.drop i)) := by
  intro d
  induction d with
  | zero =>
    intro i k hi hk
    obtain ⟨k, rfl⟩ : ∃ q, k = q + 1 := ⟨k - 1, by omega⟩
    simp only [pantrylaw5_same.l0]
    refine jf (by omega) ?_
    rw [List.drop_eq_nil_of_le (by omega), List.drop_eq_nil_of_le (by omega)]
    simp
  | succ d ih =>
    intro i k hi hk
    obtain ⟨k, rfl⟩ : ∃ q, k = q + 1 := ⟨k - 1, by omega⟩
    have hil : i < l.length := by omega
    have him : i < m.length := by omega
    have e1 := List.drop_eq_getElem_cons hil
    have e2 := List.drop_eq_getElem_cons him
    have r1 : rd l (i : Int) = l[i] := by rw [rd_nat, List.getD_eq_getElem?_getD, List.getElem?_eq_getElem hil]; rfl
    have r2 : rd m (i : Int) = m[i] := by rw [rd_nat, List.getD_eq_getElem?_getD, List.getElem?_eq_getElem him]; rfl
    have c1 : (i : Int) < (l.length : Int) := by omega
    have c2 : (i : Int) < (m.length : Int) := by omega
    simp only [pantrylaw5_same.l0]
    refine it c1 (it (Int.natCast_nonneg _) (it c2 ?_))
    rw [r1, r2, e1, e2]
    have hi2 : i < 9223372036854775807 := by omega
    have hn := ih (i + 1) k (by omega) (by omega)
    refine ite_eq (fun h => ?_) (fun h => ?_)
    · rw [wsucc hi2, hn]
      simp only [List.cons.injEq, h, true_and]
    · simp only [List.cons.injEq, h, false_and, decide_false]
theorem same_f (l m : List Int) (hb : l.length < 9223372036854775807) (k : Nat) (hk : l.length < k) : pantrylaw5_same.f k l m = some (decide (l = m)) := by
  unfold pantrylaw5_same.f
  refine ite_eq (fun h => ?_) (fun h => ?_)
  · have := same_l0 l m (by omega) hb l.length 0 k (by omega) hk
    simpa using this
  · have : l ≠ m := fun e => h (by rw [e])
    simp [this]
theorem same_ev (l m : List Int) (hb : l.length < 9223372036854775807) : Ev (fun k => pantrylaw5_same.f k l m) (decide (l = m)) := ⟨l.length + 1, fun k hk => same_f l m hb k (by omega)⟩
theorem roomy_f (l : List Int) (hb : l.length < 140737488355320) : pantrylaw5_roomy.f l = some (l ++ [171]) := by
  have h1 : (l ++ [171] : List Int).length = l.length + 1 := by simp
  have h2 : ((l ++ [171]) ++ [171] : List Int).length = l.length + 2 := by simp
  have c1 : ([] : List Int).length + l.length < 140737488355328 := by rw [List.length_nil]; omega
  have c2 : l.length < 140737488355328 := by omega
  have c3 : (l ++ [171] : List Int).length < 140737488355328 := by omega
  have c4 : (0 : Int) ≤ ((l.length + 1 : Nat) : Int) := by omega
  have c5 : ((l.length + 1 : Nat) : Int) ≤ ((((l ++ [171]) ++ [171] : List Int).length : Nat) : Int) := by omega
  have c6 : l.length < 9223372036854775807 := by omega
  have e := wsucc c6
  unfold pantrylaw5_roomy.f
  refine bd rfl (it c1 ?_)
  rw [List.nil_append]
  refine bd rfl (it c2 (bd rfl (it c3 (bd rfl ?_))))
  rw [e]
  refine it c4 (it c5 ?_)
  rw [Int.toNat_natCast, List.take_append_of_le_length (by omega), List.take_of_length_le (by omega)]
theorem stands_ev (l : List Int) (hb : l.length < 140737488355320) : Ev (fun k => pantrylaw5_stands.f k (l ++ [171]) l) true := by
  refine ⟨l.length + 1, fun k hk => ?_⟩
  unfold pantrylaw5_stands.f
  have h2 := same_f l l (by omega) k hk
  have hl : ((l ++ [171] : List Int).length : Int) = ((l.length + 1 : Nat) : Int) := by simp
  have hlt : (l.length : Int) < ((l.length + 1 : Nat) : Int) := by omega
  have hle : (l.length : Int) ≤ ((l.length + 1 : Nat) : Int) := by omega
  have e := wsucc (n := l.length) (by omega)
  refine it (by rw [e, hl]) (it (Int.natCast_nonneg _) (it (by rw [hl]; exact hle) ?_))
  have h1 : (l ++ [171] : List Int).take ((l.length : Int)).toNat = l := by rw [Int.toNat_natCast, List.take_append_of_le_length (Nat.le_refl _), List.take_length]
  rw [h1]
  refine bd h2 (it (by simp) (it (by rw [hl]; exact hlt) ?_))
  have h3 : rd (l ++ [171]) (l.length : Int) = 171 := by rw [rd_nat, List.getD_eq_getElem?_getD, List.getElem?_append_right (Nat.le_refl _)]; simp
  rw [h3]
  rfl
end Go.Proofs.Ythhajkmeadapgaa.Pure
