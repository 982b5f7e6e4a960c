/- digest: Fold. Own work. -/
import Derived.Test.YtlkddmkfllnnhaaDgO
import Derived.StillTailTactics
namespace Go.Proofs.Ytlkddmkfllnnhaa.Dg
set_option linter.unusedVariables false
set_option linter.unusedSimpArgs false
open Go.RowKit Go.Proofs.Ytlkddmkfllnnhaa.Md Go.Proofs.Ytlkddmkfllnnhaa.PL Go.Proofs.YtlkddmkfllnnhaaW.PrintWords Go.Proofs.YtlkddmkfllnnhaaW.PrintLast Go.Proofs.YtlkddmkfllnnhaaW.PrintMore
def folds (h : List Int) : Nat → List Int
  | 0 => List.replicate 20 0
  | k + 1 => (folds h k).set (k % 20) (Go.bits .xor .u8 ((folds h k).getD (k % 20) 0) (h.getD k 0))
theorem folds_len (h : List Int) (k : Nat) : (folds h k).length = 20 := by
  induction k with
  | zero => rfl
  | succ k ih => rw [folds, List.length_set, ih]
set_option maxHeartbeats 2000000 in
set_option maxRecDepth 100000 in
theorem fold_any (h : List Int) (hl : h.length = 32) (w : World) : Calls Try.prog 16 #[.agg (nums .u8 h).toArray] w fun e w' => e = .returned (.agg (nums .u8 (folds h 32)).toArray) ∧ Below w.heap.size w w' := by
  have HL := Aside0.mk hl
  clear hl
  have hbox : AB ((w.alloc (.cells (nums .u8 h).toArray 25)).alloc (.cells (nums .u8 (List.replicate 20 0)).toArray 31)) w.heap.size 25 h := blk_alloc (heap_alloc_new w _) _
  have hf : AB ((w.alloc (.cells (nums .u8 h).toArray 25)).alloc (.cells (nums .u8 (List.replicate 20 0)).toArray 31)) (w.heap.size + 1) 31 (List.replicate 20 0) := by
    have := heap_alloc_new (w.alloc (.cells (nums .u8 h).toArray 25)) (.cells (nums .u8 (List.replicate 20 0)).toArray 31)
    rwa [size_alloc] at this
  have hbel : Below w.heap.size w ((w.alloc (.cells (nums .u8 h).toArray 25)).alloc (.cells (nums .u8 (List.replicate 20 0)).toArray 31)) := below_alloc (below_alloc (Below.refl _ w) _) _
  have HBX := Aside0.mk hbox
  have HE := Aside0.mk (And.intro hf hbel)
  clear hbox hbel hf
  go_enter Try.func16, Try.ntmps16
  go_wp2_with (refine wpList_load_row rfl 25 (.tmp 1) rfl w.heap.size rfl 25 _ (0, 0) _ HBX.out Try.underlying25 rfl (by rw [List.size_toArray, nums_length, HL.out]; kernel_rfl) ?_)
  go_loopw [6] (fun i wr => ∃ (k : Nat), i = .int .i64 (k : Int) ∧ k ≤ 32 ∧ Aside0 (AB wr (w.heap.size + 1) 31 (folds h k) ∧ Below w.heap.size w wr)) (fun i _ => 32 - (intOf i).toNat)
  case atStart => exact ⟨0, rfl, by omega, HE⟩
  case round =>
    clear HE
    obtain ⟨k, rfl, hk, HE⟩ := hrel
    by_cases hlt : k < 32
    · have hix := fun W => run_index_arr W h HL.out k hlt
      have c1 := HE.out.1.cell (k % 20) (by rw [folds_len]; omega)
      have f1 := HE.out.1.fr (k % 20)
      obtain ⟨b, hb⟩ : ∃ b, h.getD k 0 = b := ⟨_, rfl⟩
      obtain ⟨y, hy⟩ : ∃ b, (folds h k).getD (k % 20) 0 = b := ⟨_, rfl⟩
      simp only [hb] at hix
      rw [hy] at c1
      have HBY := Aside0.mk (And.intro hb hy)
      clear hb hy
      have hkd : decide ((k : Int) < 32) = true := decide_eq_true (by omega)
      have e1 : ((k : Int) % 20).toNat = k % 20 := by omega
      have e2 : 0 ≤ (k : Int) % 20 := by omega
      have e3 : (k : Int) % 20 < 20 := by omega
      go_wp2
      refine ⟨⟨k + 1, by go_num, by omega, ⟨?_⟩⟩, by simp [intOf]; omega⟩
      have := HE.out.1.set (k % 20) (Go.bits .xor .u8 y b)
      rw [folds, HBY.out.1, HBY.out.2]
      exact ⟨this, below_set HE.out.2 (by simp)⟩
    · have hkk : k = 32 := by omega
      subst hkk
      rw [show ((32 : Nat) : Int) = 32 from rfl]
      go_wp2_with (first | (refine wpList_load_row rfl 31 (.tmp 2) rfl (w.heap.size + 1) rfl 31 _ (0, 0) _ HE.out.1 Try.underlying31 rfl (by rw [List.size_toArray, nums_length, folds_len]; kernel_rfl) ?_) | (refine wpList_store_row rfl 31 (.tmp 2) (.tmp 18) rfl (w.heap.size + 1) _ rfl rfl 31 _ HE.out.1 (by rw [List.size_toArray, nums_length, folds_len]; kernel_rfl) rfl (u8_one _) ?_))
      exact bodyPost_ret (results_cell_row rfl _ _ (w.heap.size + 1) 31 _ (0, 0) _ rfl (setRow_heap _ _ _ _ _ _ HE.out.1) Try.underlying31 rfl (by rw [List.size_toArray, nums_length, folds_len]; kernel_rfl)) rfl ⟨rfl, below_setRow HE.out.2 (by omega) _⟩
set_option maxHeartbeats 2000000 in
set_option maxRecDepth 100000 in
theorem reffold_any (h : List Int) (hl : h.length = 32) (w : World) : Calls Try.prog 17 #[.agg (nums .u8 h).toArray] w fun e w' => e = .returned (.agg (nums .u8 (folds h 32)).toArray) ∧ Below w.heap.size w w' := by
  have HL := Aside0.mk hl
  clear hl
  have h0 : AB (((w.alloc (.cells (nums .u8 h).toArray 25)).alloc (.cells (nums .u8 (List.replicate 20 0)).toArray 31)).alloc (.cells (nums .u8 (List.replicate 20 0)).toArray 31)) w.heap.size 25 h := blk_alloc (blk_alloc (heap_alloc_new w _) _) _
  have h1 : AB (((w.alloc (.cells (nums .u8 h).toArray 25)).alloc (.cells (nums .u8 (List.replicate 20 0)).toArray 31)).alloc (.cells (nums .u8 (List.replicate 20 0)).toArray 31)) (w.heap.size + 1) 31 (List.replicate 20 0) := at3_1 w _ _ _ _ _ _
  have h2 : AB (((w.alloc (.cells (nums .u8 h).toArray 25)).alloc (.cells (nums .u8 (List.replicate 20 0)).toArray 31)).alloc (.cells (nums .u8 (List.replicate 20 0)).toArray 31)) (w.heap.size + 1 + 1) 31 (List.replicate 20 0) := at3_2 w _ _ _
  have h3 : Below w.heap.size w (((w.alloc (.cells (nums .u8 h).toArray 25)).alloc (.cells (nums .u8 (List.replicate 20 0)).toArray 31)).alloc (.cells (nums .u8 (List.replicate 20 0)).toArray 31)) := below_alloc (below_alloc (below_alloc (Below.refl _ w) _) _) _
  have HE := Aside0.mk (And.intro h0 (And.intro h1 (And.intro h2 h3)))
  clear h0 h1 h2 h3
  go_enter Try.func17, Try.ntmps17
  go_wp2
  go_loopw [4] (fun i wr => ∃ (k : Nat), i = .int .i64 (k : Int) ∧ k ≤ 32 ∧ Aside0 (AB wr w.heap.size 25 h ∧ AB wr (w.heap.size + 1) 31 (List.replicate 20 0) ∧ AB wr (w.heap.size + 1 + 1) 31 (folds h k) ∧ Below w.heap.size w wr)) (fun i _ => 32 - (intOf i).toNat)
  case atStart => exact ⟨0, rfl, by omega, HE⟩
  case round =>
    clear HE
    obtain ⟨k, rfl, hk, HE⟩ := hrel
    by_cases hlt : k < 32
    · have c0 := HE.out.1.cell k (by rw [HL.out]; omega)
      have c1 := HE.out.2.2.1.cell (k % 20) (by rw [folds_len]; omega)
      have f1 := HE.out.2.2.1.fr (k % 20)
      obtain ⟨b, hb⟩ : ∃ b, h.getD k 0 = b := ⟨_, rfl⟩
      obtain ⟨y, hy⟩ : ∃ b, (folds h k).getD (k % 20) 0 = b := ⟨_, rfl⟩
      rw [hb] at c0
      rw [hy] at c1
      have HBY := Aside0.mk (And.intro hb hy)
      clear hb hy
      have e0 : 0 ≤ (k : Int) := by omega
      have e00 : (k : Int) < 32 := by omega
      have e1 : ((k : Int) % 20).toNat = k % 20 := by omega
      have e2 : 0 ≤ (k : Int) % 20 := by omega
      have e3 : (k : Int) % 20 < 20 := by omega
      have e4 : (k : Int).tmod 20 = (k : Int) % 20 := Int.tmod_eq_emod_of_nonneg e0
      go_wp2
      go_still_tail 11, (by kernel_rfl)
      change wpList _ _ _ _ _ wr.drew
      go_wp2
      refine ⟨⟨k + 1, by go_num, by omega, ⟨?_⟩⟩, by simp [intOf]; omega⟩
      have := HE.out.2.2.1.set (k % 20) (Go.bits .xor .u8 y b)
      rw [folds, HBY.out.1, HBY.out.2]
      exact ⟨HE.out.1.far (by show w.heap.size ≠ w.heap.size + 1 + 1; omega) _, HE.out.2.1.far (by show w.heap.size + 1 ≠ w.heap.size + 1 + 1; omega) _, this, below_drew (below_set HE.out.2.2.2 (by show w.heap.size ≤ w.heap.size + 1 + 1; omega))⟩
    · have hkk : k = 32 := by omega
      subst hkk
      rw [show ((32 : Nat) : Int) = 32 from rfl]
      go_wp2_with (first | (refine wpList_load_row rfl 31 (.tmp 3) rfl (w.heap.size + 1 + 1) rfl 31 _ (0, 0) _ HE.out.2.2.1 Try.underlying31 rfl (by rw [List.size_toArray, nums_length, folds_len]; kernel_rfl) ?_) | (refine wpList_store_row rfl 31 (.tmp 2) (.tmp 20) rfl (w.heap.size + 1) _ rfl rfl 31 _ HE.out.2.1 (by rw [List.size_toArray, nums_length, folds_len]; kernel_rfl) (show (20 : Nat) = _ from by rw [List.size_toArray, nums_length, folds_len]) (u8_one _) ?_))
      exact bodyPost_ret (results_cell_row rfl _ _ (w.heap.size + 1) 31 _ (0, 0) _ rfl (setRow_heap _ _ _ _ _ _ HE.out.2.1) Try.underlying31 rfl (by rw [List.size_toArray, nums_length, folds_len]; kernel_rfl)) rfl ⟨rfl, below_setRow HE.out.2.2.2 (by omega) _⟩
end Go.Proofs.Ytlkddmkfllnnhaa.Dg
