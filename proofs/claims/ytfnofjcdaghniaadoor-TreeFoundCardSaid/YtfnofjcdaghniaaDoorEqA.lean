/- trees: Equal's plain law. Own work. -/
import Derived.Test.YtfnofjcdaghniaaDoorTrA
import Derived.Test.YtfnofjcdaghniaaDoorMt2
namespace Go.Proofs.YtfnofjcdaghniaaDoor.Tree
set_option linter.unusedVariables false
set_option linter.unusedSimpArgs false
open Go.RowKit Go.Proofs.YtfnofjcdaghniaaDoor.PL Go.Proofs.YtfnofjcdaghniaaDoor.Mt Go.Proofs.YtfnofjcdaghniaaDoorW.PrintWords Go.Proofs.YtfnofjcdaghniaaDoorW.PrintLast Go.Proofs.YtfnofjcdaghniaaDoorW.PrintMore
open Classical in
/-- are two trees one? -/
noncomputable def eqT (t u : S26) : Bool := decide (t = u)
theorem eqT_iff {t u : S26} : eqT t u = true ↔ t = u := by unfold eqT; exact @decide_eq_true_iff _ (Classical.propDecidable _)
theorem eqT_false {t u : S26} (h : t ≠ u) : eqT t u = false := by unfold eqT; exact @decide_eq_false _ (Classical.propDecidable _) h
theorem eqT_true {t u : S26} (h : t = u) : eqT t u = true := eqT_iff.2 h
theorem nx {n : Nat} (h : n < 9223372036854775807) : wrap64 ((n : Int) + 1) = ((n + 1 : Nat) : Int) := by rw [w64 (by omega) (by omega)]; omega
theorem ba_eq {a b : ByteArray} : a.toList = b.toList ↔ a = b := by
  constructor
  · intro h
    rw [toList_data, toList_data] at h
    exact ByteArray.ext (Array.toList_inj.1 h)
  · rintro rfl; rfl
def eqF (k : Nat) (t u : S26) : Option Bool := pantryref4_Equal.f k t.f0 t.f1 t.f2 t.f3 t.f4 u.f0 u.f1 u.f2 u.f3 u.f4
theorem eq_l1 (N : Nat) (ih : ∀ (t u : S26) (M : Nat), GT N t → GT M u → ∃ K, ∀ k, K ≤ k → eqF k t u = some (eqT t u)) (t u : S26) (M : Nat) (hlen : t.f4.length = u.f4.length) (hl : t.f4.length < 9223372036854775807) (hg : ∀ a ∈ t.f4, GT N a) (hg2 : ∀ a ∈ u.f4, GT M a) :
    ∀ (d i : Nat), i + d = t.f4.length → ∃ K, ∀ k, K ≤ k → ∃ b, pantryref4_Equal.l1 k (i : Int) t.f0 t.f1 t.f2 t.f3 t.f4 u.f0 u.f1 u.f2 u.f3 u.f4 = some b ∧ (b = true ↔ t.f4.drop i = u.f4.drop i) := by
  intro d
  induction d with
  | zero =>
    intro i hi
    refine ⟨1, fun k hk => ⟨true, ?_, ?_⟩⟩
    · obtain ⟨k, rfl⟩ : ∃ q, k = q + 1 := ⟨k - 1, by omega⟩
      simp only [pantryref4_Equal.l1]
      exact jf (by omega) rfl
    · rw [List.drop_eq_nil_of_le (by omega), List.drop_eq_nil_of_le (by omega)]; simp
  | succ d ihd =>
    intro i hi
    have hil : i < t.f4.length := by omega
    have him : i < u.f4.length := by omega
    obtain ⟨K1, h1⟩ := ihd (i + 1) (by omega)
    obtain ⟨K2, h2⟩ := ih t.f4[i] u.f4[i] M (hg _ (List.getElem_mem _)) (hg2 _ (List.getElem_mem _))
    refine ⟨K1 + K2 + 1, fun k hk => ?_⟩
    obtain ⟨k, rfl⟩ : ∃ q, k = q + 1 := ⟨k - 1, by omega⟩
    have r1 : rd_T26 t.f4 (i : Int) = t.f4[i] := by unfold rd_T26; rw [Int.toNat_natCast, List.getD_eq_getElem?_getD, List.getElem?_eq_getElem hil]; rfl
    have r2 : rd_T26 u.f4 (i : Int) = u.f4[i] := by unfold rd_T26; rw [Int.toNat_natCast, List.getD_eq_getElem?_getD, List.getElem?_eq_getElem him]; rfl
    have e1 := List.drop_eq_getElem_cons hil
    have e2 := List.drop_eq_getElem_cons him
    have h2' := h2 k (by omega)
    unfold eqF at h2'
    obtain ⟨b, hb, hb2⟩ := h1 k (by omega)
    have c1 : (i : Int) < (t.f4.length : Int) := by omega
    have c2 : (i : Int) < (u.f4.length : Int) := by omega
    simp only [pantryref4_Equal.l1]
    rw [if_pos c1, if_pos (Int.natCast_nonneg _), if_pos c2, r1, r2, h2', Option.bind_some, nx (by omega), hb]
    by_cases he : t.f4[i] = u.f4[i]
    · rw [if_pos (eqT_true he)]
      refine ⟨b, rfl, ?_⟩
      rw [hb2, e1, e2, he, List.cons.injEq]
      exact ⟨fun h => ⟨rfl, h⟩, fun h => h.2⟩
    · rw [if_neg (by rw [eqT_false he]; simp)]
      refine ⟨false, rfl, ?_⟩
      rw [e1, e2, List.cons.injEq]
      exact ⟨fun h => (by cases h), fun h => absurd h.1 he⟩
theorem eq_l0 (t u : S26) (R : Prop) (hlen : t.f3.length = u.f3.length) (hl : t.f3.length < 9223372036854775807) (K0 : Nat) (h0 : ∀ k, K0 ≤ k → ∃ b, pantryref4_Equal.l1 k 0 t.f0 t.f1 t.f2 t.f3 t.f4 u.f0 u.f1 u.f2 u.f3 u.f4 = some b ∧ (b = true ↔ R)) :
    ∀ (d i : Nat), i + d = t.f3.length → ∀ k, K0 + d + 1 ≤ k → ∃ b, pantryref4_Equal.l0 k (i : Int) t.f0 t.f1 t.f2 t.f3 t.f4 u.f0 u.f1 u.f2 u.f3 u.f4 = some b ∧ (b = true ↔ t.f3.drop i = u.f3.drop i ∧ R) := by
  intro d
  induction d with
  | zero =>
    intro i hi k hk
    obtain ⟨k, rfl⟩ : ∃ q, k = q + 1 := ⟨k - 1, by omega⟩
    obtain ⟨b, hb, hb2⟩ := h0 k (by omega)
    refine ⟨b, ?_, ?_⟩
    · simp only [pantryref4_Equal.l0]
      exact jf (by omega) hb
    · rw [List.drop_eq_nil_of_le (by omega), List.drop_eq_nil_of_le (by omega), hb2]; simp
  | succ d ihd =>
    intro i hi k hk
    have hil : i < t.f3.length := by omega
    have him : i < u.f3.length := by omega
    obtain ⟨k, rfl⟩ : ∃ q, k = q + 1 := ⟨k - 1, by omega⟩
    have r1 : rdOf ByteArray.empty t.f3 (i : Int) = t.f3[i] := by rw [rdOf_nat, List.getD_eq_getElem?_getD, List.getElem?_eq_getElem hil]; rfl
    have r2 : rdOf ByteArray.empty u.f3 (i : Int) = u.f3[i] := by rw [rdOf_nat, List.getD_eq_getElem?_getD, List.getElem?_eq_getElem him]; rfl
    have e1 := List.drop_eq_getElem_cons hil
    have e2 := List.drop_eq_getElem_cons him
    obtain ⟨b, hb, hb2⟩ := ihd (i + 1) (by omega) k (by omega)
    have c1 : (i : Int) < (t.f3.length : Int) := by omega
    have c2 : (i : Int) < (u.f3.length : Int) := by omega
    simp only [pantryref4_Equal.l0]
    rw [if_pos c1, if_pos (Int.natCast_nonneg _), if_pos c2, r1, r2, nx (by omega), hb]
    by_cases he : t.f3[i].toList = u.f3[i].toList
    · rw [if_pos he]
      refine ⟨b, rfl, ?_⟩
      rw [hb2, e1, e2, ba_eq.1 he, List.cons.injEq]
      exact ⟨fun h => ⟨⟨rfl, h.1⟩, h.2⟩, fun h => ⟨h.1.2, h.2⟩⟩
    · rw [if_neg he]
      refine ⟨false, rfl, ?_⟩
      rw [e1, e2]
      have hne : t.f3[i] ≠ u.f3[i] := fun h => he (by rw [h])
      rw [List.cons.injEq]
      exact ⟨fun h => (by cases h), fun h => absurd h.1.1 hne⟩
theorem eq_ev : ∀ (N : Nat) (t u : S26) (M : Nat), GT N t → GT M u → ∃ K, ∀ k, K ≤ k → eqF k t u = some (eqT t u) := by
  intro N
  induction N with
  | zero => intro t u M h; exact h.elim
  | succ N ih =>
    intro t u M hG hG2
    cases M with
    | zero => exact hG2.elim
    | succ M =>
      obtain ⟨-, ⟨-, a1, a2⟩, ⟨-, a3, -⟩, -, a4, a5⟩ := hG
      obtain ⟨-, ⟨-, b1, b2⟩, ⟨-, b3, -⟩, -, b4, b5⟩ := hG2
      have hj : ∀ k, 1 ≤ k → pantryref4_Equal.j0 k true t.f0 t.f1 t.f2 t.f3 t.f4 u.f0 u.f1 u.f2 u.f3 u.f4 = some false := by
        intro k hk
        obtain ⟨k, rfl⟩ : ∃ q, k = q + 1 := ⟨k - 1, by omega⟩
        simp only [pantryref4_Equal.j0, if_true]
      have sf : ∀ k, 2 ≤ k → ∃ q, k = q + 1 ∧ 1 ≤ q := fun k hk => ⟨k - 1, by omega, by omega⟩
      have no : ∀ {x : Prop}, (t = u → x) → ¬ x → eqT t u = false := fun h1 h2 => eqT_false (fun h => h2 (h1 h))
      unfold eqF
      by_cases c0 : t.f0 = u.f0
      · by_cases c1 : t.f1 = u.f1
        · have c1' : ¬ (t.f1 != u.f1) = true := by rw [c1]; simp
          by_cases c2 : t.f2 = u.f2
          · have c2' : (strOfNums t.f2).toList = (strOfNums u.f2).toList := by rw [c2]
            by_cases c3 : t.f3.length = u.f3.length
            · have c3' : (t.f3.length : Int) = (u.f3.length : Int) := by omega
              by_cases c4 : t.f4.length = u.f4.length
              · have c4' : ((t.f4.length : Int) != (u.f4.length : Int)) = false := by rw [c4]; simp
                obtain ⟨K0, h0⟩ := eq_l1 N ih t u M c4 (by omega) a5 b5 t.f4.length 0 (by omega)
                have h1 := eq_l0 t u (t.f4.drop 0 = u.f4.drop 0) c3 (by omega) K0 h0 t.f3.length 0 (by omega)
                refine ⟨K0 + t.f3.length + 4, fun k hk => ?_⟩
                obtain ⟨k, rfl⟩ : ∃ q, k = q + 2 := ⟨k - 2, by omega⟩
                obtain ⟨b, hb, hb2⟩ := h1 k (by omega)
                simp only [pantryref4_Equal.f]
                rw [if_pos c0, if_neg c1', if_pos c2', if_pos c3', c4']
                simp only [pantryref4_Equal.j0]
                rw [if_neg (by simp)]
                refine hb.trans (congrArg some ?_)
                rw [Bool.eq_iff_iff, hb2, eqT_iff]
                simp only [List.drop_zero]
                constructor
                · rintro ⟨h3, h4⟩
                  cases t; cases u
                  simp_all
                · rintro rfl; exact ⟨rfl, rfl⟩
              · have c4' : ((t.f4.length : Int) != (u.f4.length : Int)) = true := by simp; omega
                refine ⟨2, fun k hk => ?_⟩
                obtain ⟨k, rfl, hk2⟩ := sf k hk
                simp only [pantryref4_Equal.f]
                rw [if_pos c0, if_neg c1', if_pos c2', if_pos c3', c4', hj k hk2, no (fun h => by rw [h]) c4]
            · refine ⟨2, fun k hk => ?_⟩
              obtain ⟨k, rfl, hk2⟩ := sf k hk
              simp only [pantryref4_Equal.f]
              rw [if_pos c0, if_neg c1', if_pos c2', if_neg (by omega), hj k hk2, no (fun h => by rw [h]) c3]
          · have c2' : ¬ (strOfNums t.f2).toList = (strOfNums u.f2).toList := fun h => c2 (str_inj (B8.of_wf a2) (B8.of_wf b2) h)
            refine ⟨2, fun k hk => ?_⟩
            obtain ⟨k, rfl, hk2⟩ := sf k hk
            simp only [pantryref4_Equal.f]
            rw [if_pos c0, if_neg c1', if_neg c2', hj k hk2, no (fun h => by rw [h]) c2]
        · have c1' : (t.f1 != u.f1) = true := by simpa using c1
          refine ⟨2, fun k hk => ?_⟩
          obtain ⟨k, rfl, hk2⟩ := sf k hk
          simp only [pantryref4_Equal.f]
          rw [if_pos c0, if_pos c1', hj k hk2, no (fun h => by rw [h]) c1]
      · refine ⟨2, fun k hk => ?_⟩
        obtain ⟨k, rfl, hk2⟩ := sf k hk
        simp only [pantryref4_Equal.f]
        rw [if_neg c0, hj k hk2, no (fun h => by rw [h]) c0]
theorem Equal_any (N M : Nat) (t u : S26) (A2 : Option Addr) (c2 : Nat) (A3 : Option Addr) (c3 : Nat) (A4 : Option Addr) (c4 : Nat) (B2 : Option Addr) (d2 : Nat) (B3 : Option Addr) (d3 : Nat) (B4 : Option Addr) (d4 : Nat) (w : World) (h : TR w t A2 c2 A3 c3 A4 c4) (h2 : TR w u B2 d2 B3 d3 B4 d4) (hG : GT N t) (hG2 : GT M u) :
    Calls Tryd.prog 14 #[TV t A2 c2 A3 c3 A4 c4, TV u B2 d2 B3 d3 B4 d4] w fun e w' => e = .returned (.bool (eqT t u)) ∧ Below w.heap.size w w' := by
  obtain ⟨K, hK⟩ := eq_ev N t u M hG hG2
  obtain ⟨x1, x2, x3, x4, x5, x6⟩ := h
  obtain ⟨y1, y2, y3, y4, y5, y6⟩ := h2
  exact pantryref4_Equal.calls K t.f0 t.f1 A2 c2 t.f2 A3 c3 t.f3 A4 c4 t.f4 u.f0 u.f1 B2 d2 u.f2 B3 d3 u.f3 B4 d4 u.f4 (eqT t u) w x2 x1 x4 x3 x6 x5 y2 y1 y4 y3 y6 y5 (hK K (Nat.le_refl _))
end Go.Proofs.YtfnofjcdaghniaaDoor.Tree
