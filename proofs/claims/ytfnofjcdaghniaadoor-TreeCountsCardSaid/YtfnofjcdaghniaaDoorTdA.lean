/- TreeCounts, walked. Own work; printed by gen_td.py. -/
import Derived.Test.YtfnofjcdaghniaaDoorRcJ
import Derived.Test.YtfnofjcdaghniaaDoorRcJ
import Derived.Test.YtfnofjcdaghniaaDoorRcJ
namespace Go.Proofs.YtfnofjcdaghniaaDoor.Tree
set_option linter.unusedVariables false
set_option linter.unusedSimpArgs false
open Go.RowKit Go.Proofs.YtfnofjcdaghniaaDoor.PL Go.Proofs.YtfnofjcdaghniaaDoor.Mt Go.Proofs.YtfnofjcdaghniaaDoorW.PrintWords Go.Proofs.YtfnofjcdaghniaaDoorW.PrintLast Go.Proofs.YtfnofjcdaghniaaDoorW.PrintMore
theorem FilesS_len {N : Nat} {t : S26} (hG : GT N t) : (FilesS N t).length ≤ 65536 := by
  unfold FilesS
  by_cases h : (chk N t 1 0).1 = 0
  · rw [if_neg (by simpa using h), sortS_len]; exact (filesS_le hG h).2
  · rw [if_pos h]; simp
theorem SameS_self (N : Nat) (t : S26) : SameS N N t t = decide ((chk N t 1 0).1 = 0) := by
  unfold SameS
  rw [eqT_true rfl]
  cases decide ((chk N t 1 0).1 = 0) <;> rfl
set_option maxRecDepth 20000 in
set_option maxHeartbeats 8000000 in
theorem TreeCounts_row (N : Nat) (t : S26) (A2 : Option Addr) (c2 : Nat) (A3 : Option Addr) (c3 : Nat) (A4 : Option Addr) (c4 : Nat) (M : Nat) (u : S26) (B2 : Option Addr) (d2 : Nat) (B3 : Option Addr) (d3 : Nat) (B4 : Option Addr) (d4 : Nat) (w : World)
    (ht : TR w t A2 c2 A3 c3 A4 c4) (hG : GT N t) (hu : TR w u B2 d2 B3 d3 B4 d4) (hGu : GT M u) (hg : G0 w) :
    Calls Tryd.prog 9 #[TV t A2 c2 A3 c3 A4 c4, TV u B2 d2 B3 d3 B4 d4] w fun e w' => e = .returned (.bool true) ∧ Below w.heap.size w w' := by
  have HT := Aside0.mk (And.intro ht (And.intro hu hg))
  have HG := Aside0.mk (And.intro hG hGu)
  clear ht hu hg hG hGu
  have HW := Aside0.mk (AW.enter2 w t u A2 c2 A3 c3 A4 c4 B2 d2 B3 d3 B4 d4)
  go_enter Tryd.func9, Tryd.ntmps9
  go_upto_region 1 with fail
  generalize ((w.alloc (bx t A2 c2 A3 c3 A4 c4)).alloc (bx u B2 d2 B3 d3 B4 d4)) = w3 at *
  obtain ⟨a, ha⟩ : ∃ q, w.heap.size = q := ⟨_, rfl⟩
  rw [ha] at HW ⊢
  have HA := Aside0.mk ha
  clear ha
  obtain ⟨c, hc⟩ : ∃ q, a + 1 = q := ⟨_, rfl⟩
  rw [hc] at HW ⊢
  clear hc
  obtain ⟨x0, x1, x2, x3, x4⟩ := cells5 HW.out.ba
  obtain ⟨b0, b1, b2, b3, b4⟩ := cells5 HW.out.bc
  have hal := below_alloc (Below.refl w3.heap.size w3) (.cells #[.int .i64 t.f0, .bool t.f1, .slice A2 t.f2.length c2, .slice A3 t.f3.length c3, .slice A4 t.f4.length c4, .int .i64 u.f0, .bool u.f1, .slice B2 u.f2.length d2, .slice B3 u.f3.length d3, .slice B4 u.f4.length d4] 26)
  have HR := Aside0.mk (heap_alloc_new w3 (.cells #[.int .i64 t.f0, .bool t.f1, .slice A2 t.f2.length c2, .slice A3 t.f3.length c3, .slice A4 t.f4.length c4, .int .i64 u.f0, .bool u.f1, .slice B2 u.f2.length d2, .slice B3 u.f3.length d3, .slice B4 u.f4.length d4] 26))
  have HW4 := Aside0.mk (HW.out.step hal)
  clear hal HW
  go_wp2_with fail
  clear x0 x1 x2 x3 x4
  clear b0 b1 b2 b3 b4
  generalize w3.alloc (.cells #[.int .i64 t.f0, .bool t.f1, .slice A2 t.f2.length c2, .slice A3 t.f3.length c3, .slice A4 t.f4.length c4, .int .i64 u.f0, .bool u.f1, .slice B2 u.f2.length d2, .slice B3 u.f3.length d3, .slice B4 u.f4.length d4] 26) = w4 at *
  have HW := HW4
  clear HW4
  refine (heavy_any (N + M) [t, u] (some ⟨w3.heap.size, 0, none⟩) 2 w4 (two_C HR.out (HT.out.1.below HW.out.bel) (HT.out.2.1.below HW.out.bel)) (by intro v hv; simp at hv; rcases hv with rfl | rfl; exact GT_mono HG.out.1 (by omega); exact GT_mono HG.out.2 (by omega)) (by simp)).mono ?_
  rintro e w5 ⟨hv, rfl, hb, -⟩
  have HW := Aside0.mk (HW.out.step hb)
  clear hb HR
  cases hv with
  | true =>
    go_wp2_with fail
    exact bodyPost_ret (v := .bool true) (by simp [results, Tryd.results9, go_sem]) rfl ⟨rfl, HA.out ▸ HW.out.bel⟩
  | false =>
    obtain ⟨x0, x1, x2, x3, x4⟩ := cells5 HW.out.ba
    go_wp2_with fail
    clear x0 x1 x2 x3 x4
    obtain ⟨nn, hnn⟩ : ∃ q, (CountS N t).1 = q := ⟨_, rfl⟩
    obtain ⟨bb, hbb⟩ : ∃ q, (CountS N t).2 = q := ⟨_, rfl⟩
    have HNB := Aside0.mk (And.intro hnn hbb)
    clear hnn hbb
    refine (Count_any N t A2 c2 A3 c3 A4 c4 w5 (HT.out.1.below HW.out.bel) HG.out.1).mono ?_
    rw [HNB.out.1, HNB.out.2]
    rintro e w6 ⟨rfl, hb⟩
    have HW := Aside0.mk (HW.out.step hb)
    clear hb
    obtain ⟨x0, x1, x2, x3, x4⟩ := cells5 HW.out.ba
    go_wp2_with fail
    clear x0 x1 x2 x3 x4
    refine (RCount_any N t A2 c2 A3 c3 A4 c4 w6 (HT.out.1.below HW.out.bel) HG.out.1).mono ?_
    rw [HNB.out.1, HNB.out.2]
    rintro e w7 ⟨rfl, hb⟩
    have HW := Aside0.mk (HW.out.step hb)
    clear hb
    go_upto_region 5 with fail
    have HW := Aside0.mk (HW.out.step (below_drew (Below.refl _ w7)))
    obtain ⟨x0, x1, x2, x3, x4⟩ := cells5 HW.out.ba
    obtain ⟨b0, b1, b2, b3, b4⟩ := cells5 HW.out.bc
    refine start_ (n := 37) (S := fun w' => w'.cell? ⟨a, 0, none⟩ = some (.int .i64 t.f0) ∧ w'.cell? ⟨a, 1, none⟩ = some (.bool t.f1) ∧ w'.cell? ⟨a, 2, none⟩ = some (.slice A2 t.f2.length c2) ∧ w'.cell? ⟨a, 3, none⟩ = some (.slice A3 t.f3.length c3) ∧ w'.cell? ⟨a, 4, none⟩ = some (.slice A4 t.f4.length c4) ∧ w'.cell? ⟨c, 0, none⟩ = some (.int .i64 u.f0) ∧ w'.cell? ⟨c, 1, none⟩ = some (.bool u.f1) ∧ w'.cell? ⟨c, 2, none⟩ = some (.slice B2 u.f2.length d2) ∧ w'.cell? ⟨c, 3, none⟩ = some (.slice B3 u.f3.length d3) ∧ w'.cell? ⟨c, 4, none⟩ = some (.slice B4 u.f4.length d4)) (ds := []) #[false, false, false, false, false, false, false, false, false, false, false, false, false, false, false, false, false, false, false, false, false, false, false, false, false, false, false, false, false, false, false, false, false, false, false, false, false] (by kernel_rfl) rfl rfl ⟨x0, x1, x2, x3, x4, b0, b1, b2, b3, b4⟩ (fun hHeld => ?_)
    clear x0 x1 x2 x3 x4
    clear b0 b1 b2 b3 b4
    generalize w7.drew = wr at *
    refine pure_ (i := 0) (N := some 23) (v := ?_) (a' := ?_) #[true, false, false, false, false, false, false, false, false, false, false, false, false, false, false, false, false, false, false, false, false, false, false, false, false, false, false, false, false, false, false, false, false, false, false, false, false] rfl rfl (by kernel_rfl) (fun _ _ _ h => h) (Or.inl ⟨by rfl, ?_⟩) ?_ ?_
    rotate_left
    · intro w'
      go_simp
      with_reducible rfl
    rotate_left
    · simp only [Act.put, List.setIfInBounds_toArray, List.set_cons_zero, List.set_cons_succ]
      rfl
    refine pure_ (i := 1) (N := some 24) (v := ?_) (a' := ?_) #[true, true, false, false, false, false, false, false, false, false, false, false, false, false, false, false, false, false, false, false, false, false, false, false, false, false, false, false, false, false, false, false, false, false, false, false, false] rfl rfl (by kernel_rfl) (fun _ _ _ h => h) (Or.inl ⟨by rfl, ?_⟩) ?_ ?_
    rotate_left
    · intro w'
      go_simp
      with_reducible rfl
    rotate_left
    · simp only [Act.put, List.setIfInBounds_toArray, List.set_cons_zero, List.set_cons_succ]
      rfl
    refine pure_ (i := 2) (N := some 25) (v := ?_) (a' := ?_) #[true, true, true, false, false, false, false, false, false, false, false, false, false, false, false, false, false, false, false, false, false, false, false, false, false, false, false, false, false, false, false, false, false, false, false, false, false] rfl rfl (by kernel_rfl) (fun _ _ _ h => h) (Or.inl ⟨by rfl, ?_⟩) ?_ ?_
    rotate_left
    · intro w'
      go_simp
      with_reducible rfl
    rotate_left
    · simp only [Act.put, List.setIfInBounds_toArray, List.set_cons_zero, List.set_cons_succ]
      rfl
    refine pure_ (i := 3) (N := some 26) (v := ?_) (a' := ?_) #[true, true, true, true, false, false, false, false, false, false, false, false, false, false, false, false, false, false, false, false, false, false, false, false, false, false, false, false, false, false, false, false, false, false, false, false, false] rfl rfl (by kernel_rfl) (fun _ _ _ h => h) (Or.inl ⟨by rfl, ?_⟩) ?_ ?_
    rotate_left
    · intro w'
      go_simp
      with_reducible rfl
    rotate_left
    · simp only [Act.put, List.setIfInBounds_toArray, List.set_cons_zero, List.set_cons_succ]
      rfl
    refine pure_ (i := 4) (N := some 27) (v := ?_) (a' := ?_) #[true, true, true, true, true, false, false, false, false, false, false, false, false, false, false, false, false, false, false, false, false, false, false, false, false, false, false, false, false, false, false, false, false, false, false, false, false] rfl rfl (by kernel_rfl) (fun _ _ _ h => h) (Or.inl ⟨by rfl, ?_⟩) ?_ ?_
    rotate_left
    · intro w'
      go_simp
      with_reducible rfl
    rotate_left
    · simp only [Act.put, List.setIfInBounds_toArray, List.set_cons_zero, List.set_cons_succ]
      rfl
    refine pure_ (i := 5) (N := some 28) (v := ?_) (a' := ?_) #[true, true, true, true, true, true, false, false, false, false, false, false, false, false, false, false, false, false, false, false, false, false, false, false, false, false, false, false, false, false, false, false, false, false, false, false, false] rfl rfl (by kernel_rfl) (fun _ _ _ h => h) (Or.inl ⟨by rfl, ?_⟩) ?_ ?_
    rotate_left
    · intro w'
      go_simp
      with_reducible rfl
    rotate_left
    · simp only [Act.put, List.setIfInBounds_toArray, List.set_cons_zero, List.set_cons_succ]
      rfl
    refine pure_ (i := 6) (N := some 29) (v := ?_) (a' := ?_) #[true, true, true, true, true, true, true, false, false, false, false, false, false, false, false, false, false, false, false, false, false, false, false, false, false, false, false, false, false, false, false, false, false, false, false, false, false] rfl rfl (by kernel_rfl) (fun _ _ _ h => h) (Or.inl ⟨by rfl, ?_⟩) ?_ ?_
    rotate_left
    · intro w'
      go_simp
      with_reducible rfl
    rotate_left
    · simp only [Act.put, List.setIfInBounds_toArray, List.set_cons_zero, List.set_cons_succ]
      rfl
    refine pure_ (i := 7) (N := some 30) (v := ?_) (a' := ?_) #[true, true, true, true, true, true, true, true, false, false, false, false, false, false, false, false, false, false, false, false, false, false, false, false, false, false, false, false, false, false, false, false, false, false, false, false, false] rfl rfl (by kernel_rfl) (fun _ _ _ h => h) (Or.inl ⟨by rfl, ?_⟩) ?_ ?_
    rotate_left
    · intro w'
      go_simp
      with_reducible rfl
    rotate_left
    · simp only [Act.put, List.setIfInBounds_toArray, List.set_cons_zero, List.set_cons_succ]
      rfl
    refine pure_ (i := 8) (N := some 31) (v := ?_) (a' := ?_) #[true, true, true, true, true, true, true, true, true, false, false, false, false, false, false, false, false, false, false, false, false, false, false, false, false, false, false, false, false, false, false, false, false, false, false, false, false] rfl rfl (by kernel_rfl) (fun _ _ _ h => h) (Or.inl ⟨by rfl, ?_⟩) ?_ ?_
    rotate_left
    · intro w'
      go_simp
      with_reducible rfl
    rotate_left
    · simp only [Act.put, List.setIfInBounds_toArray, List.set_cons_zero, List.set_cons_succ]
      rfl
    refine take_ (i := 9) (N := some 32) (v := ?_) (a' := ?_) #[true, true, true, true, true, true, true, true, true, true, false, false, false, false, false, false, false, false, false, false, false, false, false, false, false, false, false, false, false, false, false, false, false, false, false, false, false] rfl rfl (by kernel_rfl) (fun _ _ _ h => h) (Or.inl ⟨by rfl, ?_⟩) hHeld ?_ ?_
    rotate_left
    · rintro w' ⟨s0, s1, s2, s3, s4, q0, q1, q2, q3, q4⟩
      go_simp
      with_reducible rfl
    rotate_left
    · simp only [Act.put, List.setIfInBounds_toArray, List.set_cons_zero, List.set_cons_succ]
      rfl
    refine take_ (i := 11) (N := some 34) (v := ?_) (a' := ?_) #[true, true, true, true, true, true, true, true, true, true, false, true, false, false, false, false, false, false, false, false, false, false, false, false, false, false, false, false, false, false, false, false, false, false, false, false, false] rfl rfl (by kernel_rfl) (fun _ _ _ h => h) (Or.inl ⟨by rfl, ?_⟩) hHeld ?_ ?_
    rotate_left
    · rintro w' ⟨s0, s1, s2, s3, s4, q0, q1, q2, q3, q4⟩
      go_simp
      with_reducible rfl
    rotate_left
    · simp only [Act.put, List.setIfInBounds_toArray, List.set_cons_zero, List.set_cons_succ]
      rfl
    obtain ⟨l, hl⟩ : ∃ q, FilesS N t = q := ⟨_, rfl⟩
    have HL := Aside0.mk hl
    clear hl
    refine one_ (i := 10) (N := some 33) #[true, true, true, true, true, true, true, true, true, true, true, true, false, false, false, false, false, false, false, false, false, false, false, false, false, false, false, false, false, false, false, false, false, false, false, false, false] rfl rfl (by kernel_rfl) (by decide) (fun K hK => ?_)
    go_simp
    refine (Files_any N t A2 c2 A3 c3 A4 c4 wr (HT.out.1.below HW.out.bel) HG.out.1).mono ?_
    rw [HL.out]
    rintro e w9 ⟨F1, f1, rfl, hf1, hC1, hb⟩
    have HC1 := Aside0.mk (And.intro hC1 hf1)
    clear hC1 hf1
    have HW := Aside0.mk (HW.out.step hb)
    clear hb
    generalize w9 = wr at *
    refine hK.out _ _ ⟨(blk_cell HW.out.ba 0).trans rfl, (blk_cell HW.out.ba 1).trans rfl, (blk_cell HW.out.ba 2).trans rfl, (blk_cell HW.out.ba 3).trans rfl, (blk_cell HW.out.ba 4).trans rfl, (blk_cell HW.out.bc 0).trans rfl, (blk_cell HW.out.bc 1).trans rfl, (blk_cell HW.out.bc 2).trans rfl, (blk_cell HW.out.bc 3).trans rfl, (blk_cell HW.out.bc 4).trans rfl⟩ (fun hHeld => ?_)
    clear hK K
    refine one_ (i := 12) (N := some 35) #[true, true, true, true, true, true, true, true, true, true, true, true, true, false, false, false, false, false, false, false, false, false, false, false, false, false, false, false, false, false, false, false, false, false, false, false, false] rfl rfl (by kernel_rfl) (by decide) (fun K hK => ?_)
    go_simp
    refine (RFiles_any N t A2 c2 A3 c3 A4 c4 wr (HT.out.1.below HW.out.bel) HG.out.1).mono ?_
    rw [HL.out]
    rintro e w9 ⟨F2, f2, rfl, hf2, hC2, hb⟩
    have HC2 := Aside0.mk (And.intro hC2 hf2)
    have HC1 := Aside0.mk (And.intro (Kd.C_below HC1.out.1 hb) HC1.out.2)
    clear hC2 hf2
    have HW := Aside0.mk (HW.out.step hb)
    clear hb
    generalize w9 = wr at *
    refine hK.out _ _ ⟨(blk_cell HW.out.ba 0).trans rfl, (blk_cell HW.out.ba 1).trans rfl, (blk_cell HW.out.ba 2).trans rfl, (blk_cell HW.out.ba 3).trans rfl, (blk_cell HW.out.ba 4).trans rfl, (blk_cell HW.out.bc 0).trans rfl, (blk_cell HW.out.bc 1).trans rfl, (blk_cell HW.out.bc 2).trans rfl, (blk_cell HW.out.bc 3).trans rfl, (blk_cell HW.out.bc 4).trans rfl⟩ (fun hHeld => ?_)
    clear hK K
    refine one_ (i := 13) (N := some 36) #[true, true, true, true, true, true, true, true, true, true, true, true, true, true, false, false, false, false, false, false, false, false, false, false, false, false, false, false, false, false, false, false, false, false, false, false, false] rfl rfl (by kernel_rfl) (by decide) (fun K hK => ?_)
    go_simp
    refine (texts_any F1 f1 l F2 f2 l wr HC1.out.1 HC1.out.2 HC2.out.1 HC2.out.2 (by rw [← HL.out]; have := FilesS_len HG.out.1; omega)).mono ?_
    rw [show decide (l = l) = true from decide_eq_true rfl]
    rintro e w9 ⟨rfl, hd⟩
    have hb := hd.below
    clear hd
    have HW := Aside0.mk (HW.out.step hb)
    clear hb
    generalize w9 = wr at *
    refine hK.out _ _ ⟨(blk_cell HW.out.ba 0).trans rfl, (blk_cell HW.out.ba 1).trans rfl, (blk_cell HW.out.ba 2).trans rfl, (blk_cell HW.out.ba 3).trans rfl, (blk_cell HW.out.ba 4).trans rfl, (blk_cell HW.out.bc 0).trans rfl, (blk_cell HW.out.bc 1).trans rfl, (blk_cell HW.out.bc 2).trans rfl, (blk_cell HW.out.bc 3).trans rfl, (blk_cell HW.out.bc 4).trans rfl⟩ (fun hHeld => ?_)
    clear hK K
    refine pure_ (i := 14) (N := some 37) (v := ?_) (a' := ?_) #[true, true, true, true, true, true, true, true, true, true, true, true, true, true, true, false, false, false, false, false, false, false, false, false, false, false, false, false, false, false, false, false, false, false, false, false, false] rfl rfl (by kernel_rfl) (fun _ _ _ h => h) (Or.inl ⟨by rfl, ?_⟩) ?_ ?_
    rotate_left
    · intro w'
      go_simp
      with_reducible rfl
    rotate_left
    · simp only [Act.put, List.setIfInBounds_toArray, List.set_cons_zero, List.set_cons_succ]
      rfl
    refine pure_ (i := 15) (N := some 38) (v := ?_) (a' := ?_) #[true, true, true, true, true, true, true, true, true, true, true, true, true, true, true, true, false, false, false, false, false, false, false, false, false, false, false, false, false, false, false, false, false, false, false, false, false] rfl rfl (by kernel_rfl) (fun _ _ _ h => h) (Or.inl ⟨by rfl, ?_⟩) ?_ ?_
    rotate_left
    · intro w'
      go_simp
      with_reducible rfl
    rotate_left
    · simp only [Act.put, List.setIfInBounds_toArray, List.set_cons_zero, List.set_cons_succ]
      rfl
    refine take_ (i := 16) (N := some 39) (v := ?_) (a' := ?_) #[true, true, true, true, true, true, true, true, true, true, true, true, true, true, true, true, true, false, false, false, false, false, false, false, false, false, false, false, false, false, false, false, false, false, false, false, false] rfl rfl (by kernel_rfl) (fun _ _ _ h => h) (Or.inl ⟨by rfl, ?_⟩) hHeld ?_ ?_
    rotate_left
    · rintro w' ⟨s0, s1, s2, s3, s4, q0, q1, q2, q3, q4⟩
      go_simp
      with_reducible rfl
    rotate_left
    · simp only [Act.put, List.setIfInBounds_toArray, List.set_cons_zero, List.set_cons_succ]
      rfl
    refine take_ (i := 17) (N := some 40) (v := ?_) (a' := ?_) #[true, true, true, true, true, true, true, true, true, true, true, true, true, true, true, true, true, true, false, false, false, false, false, false, false, false, false, false, false, false, false, false, false, false, false, false, false] rfl rfl (by kernel_rfl) (fun _ _ _ h => h) (Or.inl ⟨by rfl, ?_⟩) hHeld ?_ ?_
    rotate_left
    · rintro w' ⟨s0, s1, s2, s3, s4, q0, q1, q2, q3, q4⟩
      go_simp
      with_reducible rfl
    rotate_left
    · simp only [Act.put, List.setIfInBounds_toArray, List.set_cons_zero, List.set_cons_succ]
      rfl
    refine take_ (i := 19) (N := some 42) (v := ?_) (a' := ?_) #[true, true, true, true, true, true, true, true, true, true, true, true, true, true, true, true, true, true, false, true, false, false, false, false, false, false, false, false, false, false, false, false, false, false, false, false, false] rfl rfl (by kernel_rfl) (fun _ _ _ h => h) (Or.inl ⟨by rfl, ?_⟩) hHeld ?_ ?_
    rotate_left
    · rintro w' ⟨s0, s1, s2, s3, s4, q0, q1, q2, q3, q4⟩
      go_simp
      with_reducible rfl
    rotate_left
    · simp only [Act.put, List.setIfInBounds_toArray, List.set_cons_zero, List.set_cons_succ]
      rfl
    refine take_ (i := 20) (N := some 43) (v := ?_) (a' := ?_) #[true, true, true, true, true, true, true, true, true, true, true, true, true, true, true, true, true, true, false, true, true, false, false, false, false, false, false, false, false, false, false, false, false, false, false, false, false] rfl rfl (by kernel_rfl) (fun _ _ _ h => h) (Or.inl ⟨by rfl, ?_⟩) hHeld ?_ ?_
    rotate_left
    · rintro w' ⟨s0, s1, s2, s3, s4, q0, q1, q2, q3, q4⟩
      go_simp
      with_reducible rfl
    rotate_left
    · simp only [Act.put, List.setIfInBounds_toArray, List.set_cons_zero, List.set_cons_succ]
      rfl
    obtain ⟨sb, hsb⟩ : ∃ q, SameS N M t u = q := ⟨_, rfl⟩
    have HSB := Aside0.mk hsb
    clear hsb
    refine one_ (i := 18) (N := some 41) #[true, true, true, true, true, true, true, true, true, true, true, true, true, true, true, true, true, true, true, true, true, false, false, false, false, false, false, false, false, false, false, false, false, false, false, false, false] rfl rfl (by kernel_rfl) (by decide) (fun K hK => ?_)
    go_simp
    refine (Same_any N M t A2 c2 A3 c3 A4 c4 u B2 d2 B3 d3 B4 d4 wr (HT.out.1.below HW.out.bel) (HT.out.2.1.below HW.out.bel) HG.out.1 HG.out.2).mono ?_
    rw [HSB.out]
    rintro e w9 ⟨rfl, hb⟩
    have HW := Aside0.mk (HW.out.step hb)
    clear hb
    generalize w9 = wr at *
    refine hK.out _ _ ⟨(blk_cell HW.out.ba 0).trans rfl, (blk_cell HW.out.ba 1).trans rfl, (blk_cell HW.out.ba 2).trans rfl, (blk_cell HW.out.ba 3).trans rfl, (blk_cell HW.out.ba 4).trans rfl, (blk_cell HW.out.bc 0).trans rfl, (blk_cell HW.out.bc 1).trans rfl, (blk_cell HW.out.bc 2).trans rfl, (blk_cell HW.out.bc 3).trans rfl, (blk_cell HW.out.bc 4).trans rfl⟩ (fun hHeld => ?_)
    clear hK K
    refine one_ (i := 21) (N := some 44) #[true, true, true, true, true, true, true, true, true, true, true, true, true, true, true, true, true, true, true, true, true, true, false, false, false, false, false, false, false, false, false, false, false, false, false, false, false] rfl rfl (by kernel_rfl) (by decide) (fun K hK => ?_)
    go_simp
    refine (RSame_any N M t A2 c2 A3 c3 A4 c4 u B2 d2 B3 d3 B4 d4 wr (HT.out.1.below HW.out.bel) (HT.out.2.1.below HW.out.bel) HG.out.1 HG.out.2).mono ?_
    rw [HSB.out]
    rintro e w9 ⟨rfl, hb⟩
    have HW := Aside0.mk (HW.out.step hb)
    clear hb
    generalize w9 = wr at *
    refine hK.out _ _ ⟨(blk_cell HW.out.ba 0).trans rfl, (blk_cell HW.out.ba 1).trans rfl, (blk_cell HW.out.ba 2).trans rfl, (blk_cell HW.out.ba 3).trans rfl, (blk_cell HW.out.ba 4).trans rfl, (blk_cell HW.out.bc 0).trans rfl, (blk_cell HW.out.bc 1).trans rfl, (blk_cell HW.out.bc 2).trans rfl, (blk_cell HW.out.bc 3).trans rfl, (blk_cell HW.out.bc 4).trans rfl⟩ (fun hHeld => ?_)
    clear hK K
    refine pure_ (i := 22) (N := some 45) (v := ?_) (a' := ?_) #[true, true, true, true, true, true, true, true, true, true, true, true, true, true, true, true, true, true, true, true, true, true, true, false, false, false, false, false, false, false, false, false, false, false, false, false, false] rfl rfl (by kernel_rfl) (fun _ _ _ h => h) (Or.inl ⟨by rfl, ?_⟩) ?_ ?_
    rotate_left
    · intro w'
      go_simp
      with_reducible rfl
    rotate_left
    · simp only [Act.put, List.setIfInBounds_toArray, List.set_cons_zero, List.set_cons_succ]
      rfl
    refine pure_ (i := 23) (N := some 46) (v := ?_) (a' := ?_) #[true, true, true, true, true, true, true, true, true, true, true, true, true, true, true, true, true, true, true, true, true, true, true, true, false, false, false, false, false, false, false, false, false, false, false, false, false] rfl rfl (by kernel_rfl) (fun _ _ _ h => h) (Or.inl ⟨by rfl, ?_⟩) ?_ ?_
    rotate_left
    · intro w'
      go_simp
      with_reducible rfl
    rotate_left
    · simp only [Act.put, List.setIfInBounds_toArray, List.set_cons_zero, List.set_cons_succ]
      rfl
    refine pure_ (i := 24) (N := some 47) (v := ?_) (a' := ?_) #[true, true, true, true, true, true, true, true, true, true, true, true, true, true, true, true, true, true, true, true, true, true, true, true, true, false, false, false, false, false, false, false, false, false, false, false, false] rfl rfl (by kernel_rfl) (fun _ _ _ h => h) (Or.inl ⟨by rfl, ?_⟩) ?_ ?_
    rotate_left
    · intro w'
      go_simp
      with_reducible rfl
    rotate_left
    · simp only [Act.put, List.setIfInBounds_toArray, List.set_cons_zero, List.set_cons_succ]
      rfl
    refine take_ (i := 25) (N := some 48) (v := ?_) (a' := ?_) #[true, true, true, true, true, true, true, true, true, true, true, true, true, true, true, true, true, true, true, true, true, true, true, true, true, true, false, false, false, false, false, false, false, false, false, false, false] rfl rfl (by kernel_rfl) (fun _ _ _ h => h) (Or.inl ⟨by rfl, ?_⟩) hHeld ?_ ?_
    rotate_left
    · rintro w' ⟨s0, s1, s2, s3, s4, q0, q1, q2, q3, q4⟩
      go_simp
      with_reducible rfl
    rotate_left
    · simp only [Act.put, List.setIfInBounds_toArray, List.set_cons_zero, List.set_cons_succ]
      rfl
    refine take_ (i := 26) (N := some 49) (v := ?_) (a' := ?_) #[true, true, true, true, true, true, true, true, true, true, true, true, true, true, true, true, true, true, true, true, true, true, true, true, true, true, true, false, false, false, false, false, false, false, false, false, false] rfl rfl (by kernel_rfl) (fun _ _ _ h => h) (Or.inl ⟨by rfl, ?_⟩) hHeld ?_ ?_
    rotate_left
    · rintro w' ⟨s0, s1, s2, s3, s4, q0, q1, q2, q3, q4⟩
      go_simp
      with_reducible rfl
    rotate_left
    · simp only [Act.put, List.setIfInBounds_toArray, List.set_cons_zero, List.set_cons_succ]
      rfl
    refine take_ (i := 28) (N := some 51) (v := ?_) (a' := ?_) #[true, true, true, true, true, true, true, true, true, true, true, true, true, true, true, true, true, true, true, true, true, true, true, true, true, true, true, false, true, false, false, false, false, false, false, false, false] rfl rfl (by kernel_rfl) (fun _ _ _ h => h) (Or.inl ⟨by rfl, ?_⟩) hHeld ?_ ?_
    rotate_left
    · rintro w' ⟨s0, s1, s2, s3, s4, q0, q1, q2, q3, q4⟩
      go_simp
      with_reducible rfl
    rotate_left
    · simp only [Act.put, List.setIfInBounds_toArray, List.set_cons_zero, List.set_cons_succ]
      rfl
    obtain ⟨k, hk⟩ : ∃ q, (chk N t 1 0).1 = q := ⟨_, rfl⟩
    obtain ⟨bz, hbz⟩ : ∃ q, (k == 0) = q := ⟨_, rfl⟩
    have HSS : Aside0 (SameS N N t t = bz) := ⟨by rw [SameS_self, hk, ← hbz]; rfl⟩
    have HK := Aside0.mk hk
    clear hk
    refine one_ (i := 27) (N := some 50) #[true, true, true, true, true, true, true, true, true, true, true, true, true, true, true, true, true, true, true, true, true, true, true, true, true, true, true, true, true, false, false, false, false, false, false, false, false] rfl rfl (by kernel_rfl) (by decide) (fun K hK => ?_)
    go_simp
    refine (Same_any N N t A2 c2 A3 c3 A4 c4 t A2 c2 A3 c3 A4 c4 wr (HT.out.1.below HW.out.bel) (HT.out.1.below HW.out.bel) HG.out.1 HG.out.1).mono ?_
    rw [HSS.out]
    rintro e w9 ⟨rfl, hb⟩
    have HW := Aside0.mk (HW.out.step hb)
    clear hb
    generalize w9 = wr at *
    refine hK.out _ _ ⟨(blk_cell HW.out.ba 0).trans rfl, (blk_cell HW.out.ba 1).trans rfl, (blk_cell HW.out.ba 2).trans rfl, (blk_cell HW.out.ba 3).trans rfl, (blk_cell HW.out.ba 4).trans rfl, (blk_cell HW.out.bc 0).trans rfl, (blk_cell HW.out.bc 1).trans rfl, (blk_cell HW.out.bc 2).trans rfl, (blk_cell HW.out.bc 3).trans rfl, (blk_cell HW.out.bc 4).trans rfl⟩ (fun hHeld => ?_)
    clear hK K
    refine one_ (i := 29) (N := some 52) #[true, true, true, true, true, true, true, true, true, true, true, true, true, true, true, true, true, true, true, true, true, true, true, true, true, true, true, true, true, true, false, false, false, false, false, false, false] rfl rfl (by kernel_rfl) (by decide) (fun K hK => ?_)
    go_simp
    refine (RCheck_any N t A2 c2 A3 c3 A4 c4 wr (HT.out.1.below HW.out.bel) HG.out.1).mono ?_
    rw [HK.out]
    rintro e w9 ⟨rfl, hb⟩
    have HW := Aside0.mk (HW.out.step hb)
    clear hb
    generalize w9 = wr at *
    refine hK.out _ _ ⟨(blk_cell HW.out.ba 0).trans rfl, (blk_cell HW.out.ba 1).trans rfl, (blk_cell HW.out.ba 2).trans rfl, (blk_cell HW.out.ba 3).trans rfl, (blk_cell HW.out.ba 4).trans rfl, (blk_cell HW.out.bc 0).trans rfl, (blk_cell HW.out.bc 1).trans rfl, (blk_cell HW.out.bc 2).trans rfl, (blk_cell HW.out.bc 3).trans rfl, (blk_cell HW.out.bc 4).trans rfl⟩ (fun hHeld => ?_)
    clear hK K
    refine pure_ (i := 30) (N := some 53) (v := ?_) (a' := ?_) #[true, true, true, true, true, true, true, true, true, true, true, true, true, true, true, true, true, true, true, true, true, true, true, true, true, true, true, true, true, true, true, false, false, false, false, false, false] rfl rfl (by kernel_rfl) (fun _ _ _ h => h) (Or.inl ⟨by rfl, ?_⟩) ?_ ?_
    rotate_left
    · intro w'
      go_simp
      with_reducible rfl
    rotate_left
    · simp only [Act.put, List.setIfInBounds_toArray, List.set_cons_zero, List.set_cons_succ]
      rfl
    refine pure_ (i := 31) (N := some 54) (v := ?_) (a' := ?_) #[true, true, true, true, true, true, true, true, true, true, true, true, true, true, true, true, true, true, true, true, true, true, true, true, true, true, true, true, true, true, true, true, false, false, false, false, false] rfl rfl (by kernel_rfl) (fun _ _ _ h => h) (Or.inl ⟨by rfl, ?_⟩) ?_ ?_
    rotate_left
    · intro w'
      go_simp
      with_reducible rfl
    rotate_left
    · simp only [Act.put, List.setIfInBounds_toArray, List.set_cons_zero, List.set_cons_succ]
      rfl
    refine pure_ (i := 32) (N := some 55) (v := ?_) (a' := ?_) #[true, true, true, true, true, true, true, true, true, true, true, true, true, true, true, true, true, true, true, true, true, true, true, true, true, true, true, true, true, true, true, true, true, false, false, false, false] rfl rfl (by kernel_rfl) (fun _ _ _ h => h) (Or.inl ⟨by rfl, ?_⟩) ?_ ?_
    rotate_left
    · intro w'
      go_simp
      with_reducible rfl
    rotate_left
    · simp only [Act.put, List.setIfInBounds_toArray, List.set_cons_zero, List.set_cons_succ]
      rfl
    refine pure_ (i := 33) (N := some 56) (v := ?_) (a' := ?_) #[true, true, true, true, true, true, true, true, true, true, true, true, true, true, true, true, true, true, true, true, true, true, true, true, true, true, true, true, true, true, true, true, true, true, false, false, false] rfl rfl (by kernel_rfl) (fun _ _ _ h => h) (Or.inl ⟨by rfl, ?_⟩) ?_ ?_
    rotate_left
    · intro w'
      go_simp
      with_reducible rfl
    rotate_left
    · simp only [Act.put, List.setIfInBounds_toArray, List.set_cons_zero, List.set_cons_succ]
      rfl
    refine one_ (i := 34) (N := some 57) #[true, true, true, true, true, true, true, true, true, true, true, true, true, true, true, true, true, true, true, true, true, true, true, true, true, true, true, true, true, true, true, true, true, true, true, false, false] rfl rfl (by kernel_rfl) (by decide) (fun K hK => ?_)
    go_simp
    refine (known_any wr (HT.out.2.2.below (HA.out ▸ HW.out.bel))).mono ?_
    rintro e w9 ⟨rfl, hb⟩
    have HW := Aside0.mk (HW.out.step hb)
    clear hb
    generalize w9 = wr at *
    refine hK.out _ _ ⟨(blk_cell HW.out.ba 0).trans rfl, (blk_cell HW.out.ba 1).trans rfl, (blk_cell HW.out.ba 2).trans rfl, (blk_cell HW.out.ba 3).trans rfl, (blk_cell HW.out.ba 4).trans rfl, (blk_cell HW.out.bc 0).trans rfl, (blk_cell HW.out.bc 1).trans rfl, (blk_cell HW.out.bc 2).trans rfl, (blk_cell HW.out.bc 3).trans rfl, (blk_cell HW.out.bc 4).trans rfl⟩ (fun hHeld => ?_)
    clear hK K
    refine pure_ (i := 35) (N := some 58) (v := ?_) (a' := ?_) #[true, true, true, true, true, true, true, true, true, true, true, true, true, true, true, true, true, true, true, true, true, true, true, true, true, true, true, true, true, true, true, true, true, true, true, true, false] rfl rfl (by kernel_rfl) (fun _ _ _ h => h) (Or.inl ⟨by rfl, ?_⟩) ?_ ?_
    rotate_left
    · intro w'
      go_simp
      with_reducible rfl
    rotate_left
    · simp only [Act.put, List.setIfInBounds_toArray, List.set_cons_zero, List.set_cons_succ]
      rfl
    refine pure_ (i := 36) (N := some 4) (v := ?_) (a' := ?_) #[true, true, true, true, true, true, true, true, true, true, true, true, true, true, true, true, true, true, true, true, true, true, true, true, true, true, true, true, true, true, true, true, true, true, true, true, true] rfl rfl (by kernel_rfl) (fun _ _ _ h => h) (Or.inl ⟨by rfl, ?_⟩) ?_ ?_
    rotate_left
    · intro w'
      go_simp
      with_reducible rfl
    rotate_left
    · simp only [Act.put, List.setIfInBounds_toArray, List.set_cons_zero, List.set_cons_succ]
      rfl
    refine done_ (by kernel_rfl) ?_
    clear hHeld
    go_wp2_with fail
    exact bodyPost_ret (v := .bool true) (by simp [results, Tryd.results9, go_sem]) rfl ⟨rfl, HA.out ▸ HW.out.bel⟩
end Go.Proofs.YtfnofjcdaghniaaDoor.Tree
