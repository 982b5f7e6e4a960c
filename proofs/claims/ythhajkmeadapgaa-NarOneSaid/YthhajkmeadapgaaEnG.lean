/- chapter 5: known, same. Own work. -/
import Derived.Test.YthhajkmeadapgaaEnF
import Derived.Lib.SlBytesConst
namespace Go.Proofs.Ythhajkmeadapgaa.Tree
set_option linter.unusedVariables false
set_option linter.unusedSimpArgs false
open Go.RowKit Go.Proofs.Ythhajkmeadapgaa.PL Go.Proofs.Ythhajkmeadapgaa.Mn Go.Proofs.YthhajkmeadapgaaW.PrintWords Go.Proofs.YthhajkmeadapgaaW.PrintLast Go.Proofs.YthhajkmeadapgaaW.PrintMore
theorem same_l0 (l m : List Int) (hlen : l.length = m.length) (hb : l.length < 9223372036854775807) : ∀ (d i k : Nat), i + d = l.length → d < k →
    pantrylaw5_same.l0 k l m (i : Int) = some (decide (l.drop i = m.drop i)) := by
  intro d
  induction d with
  | zero =>
    intro i k hi hk
    obtain ⟨k, rfl⟩ : ∃ q, k = q + 1 := ⟨k - 1, by omega⟩
    simp only [pantrylaw5_same.l0]
    refine jf (by omega) ?_
    rw [List.drop_eq_nil_of_le (by omega), List.drop_eq_nil_of_le (by omega)]
    simp
  | succ d ih =>
    intro i k hi hk
    obtain ⟨k, rfl⟩ : ∃ q, k = q + 1 := ⟨k - 1, by omega⟩
    have hil : i < l.length := by omega
    have him : i < m.length := by omega
    have e1 := List.drop_eq_getElem_cons hil
    have e2 := List.drop_eq_getElem_cons him
    have r1 : rd l (i : Int) = l[i] := by rw [rd_nat, List.getD_eq_getElem?_getD, List.getElem?_eq_getElem hil]; rfl
    have r2 : rd m (i : Int) = m[i] := by rw [rd_nat, List.getD_eq_getElem?_getD, List.getElem?_eq_getElem him]; rfl
    have c1 : (i : Int) < (l.length : Int) := by omega
    have c2 : (i : Int) < (m.length : Int) := by omega
    simp only [pantrylaw5_same.l0]
    refine it c1 (it (Int.natCast_nonneg _) (it c2 ?_))
    rw [r1, r2, e1, e2]
    have hi2 : i < 9223372036854775807 := by omega
    have hn := ih (i + 1) k (by omega) (by omega)
    refine ite_eq (fun h => ?_) (fun h => ?_)
    · rw [nx hi2, hn]
      simp only [List.cons.injEq, h, true_and]
    · simp only [List.cons.injEq, h, false_and, decide_false]
theorem same_f (l m : List Int) (hb : l.length < 9223372036854775807) (k : Nat) (hk : l.length < k) : pantrylaw5_same.f k l m = some (decide (l = m)) := by
  unfold pantrylaw5_same.f
  refine ite_eq (fun h => ?_) (fun h => ?_)
  · have := same_l0 l m (by omega) hb l.length 0 k (by omega) hk
    simpa using this
  · have : l ≠ m := fun e => h (by rw [e])
    simp [this]
theorem same_any (l m : List Int) (A B : Option Addr) (c d : Nat) (w : World) (h1 : (Kd.int .u8).C w A l.length l) (hc : l.length ≤ c) (h2 : (Kd.int .u8).C w B m.length m) (hd : m.length ≤ d) (hb : l.length < 9223372036854775807) :
    Calls Try.prog 13 #[.slice A l.length c, .slice B m.length d] w fun e w' => e = .returned (.bool (decide (l = m))) ∧ Below w.heap.size w w' :=
  (pantrylaw5_same.calls (l.length + 1) A c l B d m _ w h1 hc h2 hd (same_f l m hb _ (Nat.lt_succ_self _))).mono (fun e w' h => ⟨h.1, h.2.below⟩)
/-- the tree that known lays -/
def kT : S26 := ⟨1, false, [97], [], []⟩
theorem kT_G : GT 1 kT := by
  refine ⟨by decide, ⟨by simp [kT, maxLen], by simp [kT], ?_⟩, ⟨by simp [kT], by simp [kT], fun s h => by simp [kT] at h⟩, by simp [kT], by simp [kT], fun s h => by simp [kT] at h⟩
  intro x hx
  simp [kT] at hx
  subst hx
  decide
theorem kT_chk : chk 1 kT 1 0 = (0, 1) := by
  have h1 : formE kT = 0 := by decide
  have h2 : namesOK kT.f3 := fun i hi => by simp [kT] at hi
  rw [chk, if_neg (by omega), if_neg (by rw [h1]; simp), if_neg (fun h => h h2)]
  rfl
theorem kT_enc : encB 1 kT = allB 1 kT := by unfold encB; rw [kT_chk]; rfl
theorem kT_len : (allB 1 kT).length = 120 := by
  unfold allB
  have e0 : (strOfNums kT.f2).size = 1 := by rw [strOfNums_len]; rfl
  simp only [nodeB, txs_cons, txs_nil, List.length_append, List.length_nil, tx_len]
  rw [if_pos (show kT.f0 = 1 from rfl), if_neg (show ¬ kT.f1 = true from by simp [kT])]
  simp only [List.length_append, List.length_nil, tx_len, e0]
  rfl
set_option maxRecDepth 20000 in
set_option maxHeartbeats 1000000 in
theorem known_any (w : World) : Calls Try.prog 12 #[] w fun e w' => e = .returned (.bool true) ∧ Below w.heap.size w w' := by
  have hw1 : TR (w.alloc (.cells #[.int .u8 97] 5 (1, 2))) kT (some ⟨w.heap.size, 0, none⟩) 1 none 0 none 0 := by
    refine ⟨Nat.le_refl _, ?_, Nat.le_refl _, Kd.C_nil _ _, Nat.le_refl _, Kd.C_nil _ _⟩
    exact Kd.C_of_reads (d := (0 : Int)) (h1 := fun _ => rfl) ⟨rfl, by decide, fun _ => ⟨_, rfl, fun j hj => by
      rw [add_plain, cell_of_row _ _ j _ _ _ (heap_alloc_new w _)]
      have : j = 0 := by simp [kT] at hj; omega
      subst this
      rfl⟩⟩
  have H := Aside0.mk (Encode_any 1 kT _ _ _ _ _ _ _ hw1 kT_G (by rw [kT_len]; omega))
  have HB := Aside0.mk (below_alloc (Below.refl w.heap.size w) (.cells #[.int .u8 97] 5 (1, 2)))
  rw [kT_enc, kT_chk, kT_len] at H
  clear hw1
  have hcv := Lib.run_convert_bytes_const (P := Try.prog) w 22 5 #[.int .u8 97] 1 1 Try.underlying22 Try.underlying5
  go_enter Try.func12, Try.ntmps12
  go_wp2_with fail
  refine H.out.mono ?_
  rintro e_ w2 ⟨A, c, rfl, hR, hb⟩
  have HB2 := Aside0.mk (below_then HB.out HB.out.size hb)
  clear hR hb
  go_wp2_with fail
  exact bodyPost_ret (v := .bool true) (by simp [results, Try.results12, go_sem]) rfl ⟨rfl, HB2.out⟩
end Go.Proofs.Ythhajkmeadapgaa.Tree
