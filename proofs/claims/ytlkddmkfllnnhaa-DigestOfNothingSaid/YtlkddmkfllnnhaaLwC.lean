/- chapter 1's law: a digest in twenty bytes. Own work. -/
import Derived.Test.YtlkddmkfllnnhaaLwA
import Derived.Test.YtlkddmkfllnnhaaDgF
import Derived.Deep.MidRow
import Derived.Deep.RegionHeld3
namespace Go.Proofs.Ytlkddmkfllnnhaa.Dg
set_option linter.unusedVariables false
set_option linter.unusedSimpArgs false
open Go.RowKit Go.Proofs.Ytlkddmkfllnnhaa.Md Go.Proofs.Ytlkddmkfllnnhaa.PL Go.Proofs.YtlkddmkfllnnhaaW.PrintWords Go.Proofs.YtlkddmkfllnnhaaW.PrintLast Go.Proofs.YtlkddmkfllnnhaaW.PrintMore
theorem AB.range {w : World} {g t : Nat} {xs : List Int} (h : AB w g t xs) : w.rangeAt g 0 (nums .u8 xs) := fun j v hv => by
  rw [Nat.zero_add, blk_cell h j]
  simpa using hv
set_option maxHeartbeats 4000000 in
set_option maxRecDepth 100000 in
theorem lawfolds_any (h : List Int) (hl : h.length = 32) (w : World) : Calls Try.prog 5 #[.agg (nums .u8 h).toArray] w fun e w' => e = .returned (.bool true) ∧ Below w.heap.size w w' := by
  have h0 : AB (w.alloc (.cells (nums .u8 h).toArray 25)).drew w.heap.size 25 h := heap_alloc_new w _
  have hbb : Below w.heap.size w (w.alloc (.cells (nums .u8 h).toArray 25)).drew := below_drew (below_alloc (Below.refl _ w) _)
  have hi25 : (Try.prog.info? 25).map (·.size) = some (nums .u8 h).length := by rw [nums_length, hl]; kernel_rfl
  have heq := fun W => eql_arr 31 20 Try.underlying31 (folds h 32) (folds_len _ _) W
  have HF1 := Aside0.mk (fun W => fold_any h hl W)
  have HF2 := Aside0.mk (fun W => reffold_any h hl W)
  have H0 := Aside0.mk h0
  have HB := Aside0.mk hbb
  have HI := Aside0.mk hi25
  obtain ⟨F, hF⟩ : ∃ F, folds h 32 = F := ⟨_, rfl⟩
  rw [hF] at heq HF1 HF2
  clear hl h0 hbb hF hi25
  go_enter Try.func5, Try.ntmps5
  go_wp2_with fail
  refine wp_region_held_drew (S := fun W => W.rangeAt w.heap.size 0 (nums .u8 h)) (by kernel_rfl) H0.out.range (fun hHeld => ?_)
  refine wpAnyH_take (i := 0) (oi := _) (v := _) rfl (by kernel_rfl) (by kernel_rfl) (by kernel_rfl) (fun _ _ _ h => h) (yieldsIf_load_mid (by rfl) 25 _ rfl w.heap.size 0 rfl (nums .u8 h) _ (fun _ hS => hS) Try.underlying25 rfl HI.out) hHeld ?_
  (try simp only [Act.put, List.setIfInBounds_toArray, List.set_cons_zero, List.set_cons_succ])
  refine wpAnyH_take (i := 2) (oi := _) (v := _) rfl (by kernel_rfl) (by kernel_rfl) (by kernel_rfl) (fun _ _ _ h => h) (yieldsIf_load_mid (by rfl) 25 _ rfl w.heap.size 0 rfl (nums .u8 h) _ (fun _ hS => hS) Try.underlying25 rfl HI.out) hHeld ?_
  (try simp only [Act.put, List.setIfInBounds_toArray, List.set_cons_zero, List.set_cons_succ])
  refine wpAnyH_ready (rs := [1]) (by kernel_rfl) (by simp) ?_
  refine AllReadyH.cons (o := _) rfl (fun K hK => ?_) AllReadyH.nil
  go_simp
  go_at_call 16
  (with_reducible refine (HF1.out _).mono ?_)
  rintro e w2 ⟨rfl, hb2⟩
  have HA2 := Aside0.mk ((hb2.block _ (blk_lt H0.out)).trans H0.out)
  have HB2 := Aside0.mk (below_then HB.out HB.out.size hb2)
  clear hb2
  refine hK.out _ _ (AB.range HA2.out) (fun hHeld => ?_)
  clear hK K
  (try simp only [Act.put, List.setIfInBounds_toArray, List.set_cons_zero, List.set_cons_succ])
  refine wpAnyH_ready (rs := [3]) (by kernel_rfl) (by simp) ?_
  refine AllReadyH.cons (o := _) rfl (fun K hK => ?_) AllReadyH.nil
  go_simp
  go_at_call 17
  (with_reducible refine (HF2.out _).mono ?_)
  rintro e w3 ⟨rfl, hb3⟩
  have HA3 := Aside0.mk ((hb3.block _ (blk_lt HA2.out)).trans HA2.out)
  have HB3 := Aside0.mk (below_then HB2.out HB2.out.size hb3)
  clear hb3
  refine hK.out _ _ (AB.range HA3.out) (fun hHeld => ?_)
  clear hK K
  (try simp only [Act.put, List.setIfInBounds_toArray, List.set_cons_zero, List.set_cons_succ])
  refine wpAnyH_ready (rs := [4]) (by kernel_rfl) (by simp) ?_
  refine AllReadyH.cons (o := _) rfl (fun K hK => ?_) AllReadyH.nil
  go_simp
  refine hK.out _ _ hHeld (fun hHeld => ?_)
  clear hK K
  (try simp only [Act.put, List.setIfInBounds_toArray, List.set_cons_zero, List.set_cons_succ])
  refine wpAnyH_ready (rs := [5]) (by kernel_rfl) (by simp) ?_
  refine AllReadyH.cons (o := _) rfl (fun K hK => ?_) AllReadyH.nil
  go_simp
  refine hK.out _ _ hHeld (fun hHeld => ?_)
  clear hK K
  (try simp only [Act.put, List.setIfInBounds_toArray, List.set_cons_zero, List.set_cons_succ])
  refine wpAnyH_ready (rs := [6]) (by kernel_rfl) (by simp) ?_
  refine AllReadyH.cons (o := _) rfl (fun K hK => ?_) AllReadyH.nil
  go_simp
  go_at_call 13
  (with_reducible refine (known_any _).mono ?_)
  rintro e w4 ⟨rfl, hb4⟩
  have HA4 := Aside0.mk ((hb4.block _ (blk_lt HA3.out)).trans HA3.out)
  have HB4 := Aside0.mk (below_then HB3.out HB3.out.size hb4)
  clear hb4
  refine hK.out _ _ (AB.range HA4.out) (fun hHeld => ?_)
  clear hK K
  (try simp only [Act.put, List.setIfInBounds_toArray, List.set_cons_zero, List.set_cons_succ])
  refine wpAnyH_ready (rs := [7]) (by kernel_rfl) (by simp) ?_
  refine AllReadyH.cons (o := _) rfl (fun K hK => ?_) AllReadyH.nil
  go_simp
  refine hK.out _ _ hHeld (fun hHeld => ?_)
  clear hK K
  (try simp only [Act.put, List.setIfInBounds_toArray, List.set_cons_zero, List.set_cons_succ])
  refine wpAnyH_ready (rs := [8]) (by kernel_rfl) (by simp) ?_
  refine AllReadyH.cons (o := _) rfl (fun K hK => ?_) AllReadyH.nil
  go_simp
  refine hK.out _ _ hHeld (fun hHeld => ?_)
  clear hK K
  (try simp only [Act.put, List.setIfInBounds_toArray, List.set_cons_zero, List.set_cons_succ])
  refine wpAnyH_done (by kernel_rfl) ?_ _
  go_wp2
  go_ret
  exact ⟨rfl, HB4.out⟩
end Go.Proofs.Ytlkddmkfllnnhaa.Dg
