/- proto: what is too heavy; an op against itself; the least op. Own work. -/
import Derived.Test.YtoblfdloakkmmaaEncA
import Derived.Test.YtoblfdloakkmmaaSame
namespace Go.Proofs.Ytoblfdloakkmmaa.Pure
set_option linter.unusedVariables false
open Go.RowKit Go.Proofs.Ytoblfdloakkmmaa.Mp Go.Proofs.Ytoblfdloakkmmaa.PL Go.Proofs.YtoblfdloakkmmaaW.PrintWords Go.Proofs.YtoblfdloakkmmaaW.PrintLast Go.Proofs.YtoblfdloakkmmaaW.PrintMore

def tot (l : List ByteArray) : Nat := (l.map ByteArray.size).sum
theorem heavy_l0 (texts : List ByteArray) (hs : ∀ s ∈ texts, s.size ≤ 140737488351232) (ht : texts.length < 9000000000000000) : ∀ (d i m : Nat), i + d = texts.length → m < 4000000000000000000 →
    ∃ r, (∀ k, d < k → pantrylaw26_heavy.l0 k texts (m : Int) (i : Int) = some r) ∧ (r = false → m + tot (texts.drop i) ≤ 6000) := by
  intro d
  induction d with
  | zero =>
    intro i m hi hm
    refine ⟨decide ((m : Int) > 6000), fun k hk => ?_, fun h => ?_⟩
    · obtain ⟨k, rfl⟩ : ∃ q, k = q + 1 := ⟨k - 1, by omega⟩
      simp only [pantrylaw26_heavy.l0]
      exact jf (by omega) rfl
    · rw [List.drop_eq_nil_of_le (by omega)]
      have := of_decide_eq_false h
      simp only [tot, List.map_nil, List.sum_nil]; omega
  | succ d ih =>
    intro i m hi hm
    have hil : i < texts.length := by omega
    have c1 : (i : Int) < (texts.length : Int) := by omega
    by_cases hm6 : (m : Int) ≤ 6000
    · have hsz := hs texts[i] (List.getElem_mem hil)
      obtain ⟨r, h1, h2⟩ := ih (i + 1) (m + texts[i].size) (by omega) (by omega)
      have er : rdOf ByteArray.empty texts (i : Int) = texts[i] := by rw [rdOf_nat, getD_lt _ _ _ hil]
      refine ⟨r, fun k hk => ?_, fun h => ?_⟩
      · obtain ⟨k, rfl⟩ : ∃ q, k = q + 1 := ⟨k - 1, by omega⟩
        have h3 := h1 k (by omega)
        have e2 := w1 i (by omega)
        have e3 : wrap64 ((m : Int) + (texts[i].size : Int)) = ((m + texts[i].size : Nat) : Int) := by rw [w64 (by clear e2; omega) (by clear e2; omega)]; clear e2; omega
        simp only [pantrylaw26_heavy.l0]
        rw [er, e2, e3]
        exact it c1 (it hm6 (it (Int.natCast_nonneg _) h3))
      · have := h2 h
        rw [List.drop_eq_getElem_cons hil]
        simp only [tot, List.map_cons, List.sum_cons] at this ⊢
        omega
    · refine ⟨decide ((m : Int) > 6000), fun k hk => ?_, fun h => ?_⟩
      · obtain ⟨k, rfl⟩ : ∃ q, k = q + 1 := ⟨k - 1, by omega⟩
        simp only [pantrylaw26_heavy.l0]
        exact it c1 (jf hm6 rfl)
      · have := of_decide_eq_false h; omega
theorem heavy_ev (texts : List ByteArray) (n : Nat) (hs : ∀ s ∈ texts, s.size ≤ 140737488351232) (ht : texts.length < 900000000000000) (hn : n < 900000000000000) :
    ∃ r, Ev (fun k => pantrylaw26_heavy.f k texts (n : Int)) r ∧ (r = false → n + texts.length + tot texts ≤ 6000) := by
  obtain ⟨r, h1, h2⟩ := heavy_l0 texts hs (by omega) texts.length 0 (n + texts.length) (by omega) (by omega)
  refine ⟨r, ⟨texts.length + 1, fun k hk => ?_⟩, h2⟩
  have h3 := h1 k (by omega)
  have e : wrap64 ((n : Int) + (texts.length : Int)) = ((n + texts.length : Nat) : Int) := by rw [w64 (by omega) (by omega)]; omega
  unfold pantrylaw26_heavy.f
  rw [e]
  exact h3
theorem flat_tb (texts : List ByteArray) : (texts.flatMap tb).length = 4 * texts.length + tot texts := by
  induction texts with
  | nil => rfl
  | cons s l ih => simp only [List.flatMap_cons, List.length_append, tb_length, ih, tot, List.map_cons, List.sum_cons, List.length_cons]; omega
theorem flat_nb (nums : List Int) : (nums.flatMap nb).length = 8 * nums.length := by
  induction nums with
  | nil => rfl
  | cons s l ih =>
    have : (nb s).length = 8 := LE_length _ _
    simp only [List.flatMap_cons, List.length_append, this, ih, List.length_cons]; omega
theorem body_length (nums : List Int) (texts : List ByteArray) : (bodyOf nums texts).length = 8 + 8 * nums.length + 4 * texts.length + tot texts := by
  simp only [bodyOf, List.length_append, flat_tb, flat_nb, LE_length]; omega

theorem ops_l1 (n : List Int) (t : List ByteArray) (a : Int) (ht : t.length < 9000000000000000) : ∀ (d i k : Nat), i + d = t.length → d < k → pantrylaw26_ops.l1 k (i : Int) a n t a n t = some true := by
  intro d
  induction d with
  | zero =>
    intro i k hi hk
    obtain ⟨k, rfl⟩ : ∃ q, k = q + 1 := ⟨k - 1, by omega⟩
    simp only [pantrylaw26_ops.l1]
    exact jf (by omega) rfl
  | succ d ih =>
    intro i k hi hk
    obtain ⟨k, rfl⟩ : ∃ q, k = q + 1 := ⟨k - 1, by omega⟩
    have c1 : (i : Int) < (t.length : Int) := by omega
    have h := ih (i + 1) k (by omega) (by omega)
    have e2 := w1 i (by omega)
    simp only [pantrylaw26_ops.l1]
    rw [e2]
    exact it c1 (it (Int.natCast_nonneg _) (it c1 (it trivial h)))
theorem ops_l0 (n : List Int) (t : List ByteArray) (a : Int) (ht : t.length < 9000000000000000) (hn : n.length < 9000000000000000) : ∀ (d i k : Nat), i + d = n.length → d + t.length + 2 ≤ k → pantrylaw26_ops.l0 k (i : Int) a n t a n t = some true := by
  intro d
  induction d with
  | zero =>
    intro i k hi hk
    obtain ⟨k, rfl⟩ : ∃ q, k = q + 1 := ⟨k - 1, by omega⟩
    have h := ops_l1 n t a ht t.length 0 k (by omega) (by omega)
    simp only [pantrylaw26_ops.l0]
    exact jf (by omega) h
  | succ d ih =>
    intro i k hi hk
    obtain ⟨k, rfl⟩ : ∃ q, k = q + 1 := ⟨k - 1, by omega⟩
    have c1 : (i : Int) < (n.length : Int) := by omega
    have h := ih (i + 1) k (by omega) (by omega)
    have e2 := w1 i (by omega)
    simp only [pantrylaw26_ops.l0]
    rw [e2]
    exact it c1 (it (Int.natCast_nonneg _) (it c1 (it trivial h)))
theorem ops_ev (a : Int) (n : List Int) (t : List ByteArray) (ht : t.length < 9000000000000000) (hn : n.length < 9000000000000000) : Ev (fun k => pantrylaw26_ops.f k a n t a n t) true := by
  refine ⟨n.length + t.length + 4, fun k hk => ?_⟩
  obtain ⟨k, rfl⟩ : ∃ q, k = q + 1 := ⟨k - 1, by omega⟩
  have h := ops_l0 n t a ht hn n.length 0 k (by omega) (by omega)
  have hb : ((t.length : Int) != (t.length : Int)) = false := by simp
  unfold pantrylaw26_ops.f
  refine it rfl (it rfl ?_)
  rw [hb]
  simp only [pantrylaw26_ops.j0]
  exact jf (by simp) h
theorem known_ev : Ev (fun k => pantrylaw26_known.f k) true := by
  obtain ⟨K1, h1⟩ := enc_ev 1 [] [] (fun _ _ => by decide)
  have e : encOf 1 [] [] = ([80, 68, 1, 1, 8, 0, 0, 0, 0, 0, 0, 0, 0, 0, 0, 0], 0) := by decide +kernel
  rw [e] at h1
  obtain ⟨K2, h2⟩ := same_ev [80, 68, 1, 1, 8, 0, 0, 0, 0, 0, 0, 0, 0, 0, 0, 0] [80, 68, 1, 1, 8, 0, 0, 0, 0, 0, 0, 0, 0, 0, 0, 0] (by decide)
  refine ⟨K1 + K2, fun k hk => ?_⟩
  unfold pantrylaw26_known.f
  exact bd (h1 k (by omega)) (it rfl (bd (h2 k (by omega)) (by simp)))
end Go.Proofs.Ytoblfdloakkmmaa.Pure
