/- digest: the reference's FromHex. Own work. -/
import Derived.Test.YtlkddmkfllnnhaaDgX
namespace Go.Proofs.Ytlkddmkfllnnhaa.Dg
set_option linter.unusedVariables false
set_option linter.unusedSimpArgs false
open Go.RowKit Go.Proofs.Ytlkddmkfllnnhaa.Md Go.Proofs.Ytlkddmkfllnnhaa.PL Go.Proofs.YtlkddmkfllnnhaaW.PrintWords Go.Proofs.YtlkddmkfllnnhaaW.PrintLast Go.Proofs.YtlkddmkfllnnhaaW.PrintMore
theorem low16 (x n : Int) (h0 : 0 ≤ n) (h1 : n < 16) : (x * 16 + n) % 256 = x * 16 % 256 + n := by omega
structure Y1 (w wr : World) (g0 g1 : Nat) (hs : List Int) : Prop where
  r : AB wr g0 25 (List.replicate 32 0)
  h : AB wr g1 25 hs
  b : Below w.heap.size w wr
theorem Y1.put {w wr : World} {g0 g1 : Nat} {hs : List Int} (h : Y1 w wr g0 g1 hs) (hne : g0 ≠ g1) (hw : w.heap.size ≤ g1) (k : Nat) (x : Int) : Y1 w (wr.setCell ⟨g1, k, none⟩ (.int .u8 x)) g0 g1 (hs.set k x) :=
  ⟨h.r.far (by simpa using hne) _, h.h.set k x, below_set h.b hw⟩
set_option maxHeartbeats 4000000 in
set_option maxRecDepth 100000 in
theorem reffromhex_any (s : ByteArray) (hs : s.size ≤ 140737488355000) (w : World) : Calls Try.prog 20 #[.string s] w fun e w' => e = .returned (.tuple #[.agg (nums .u8 (fhL (bytesOf s))).toArray, .int .i64 (fhE (bytesOf s))]) ∧ Below w.heap.size w w' := by
  have hy : Y1 w ((w.alloc (.cells (nums .u8 (List.replicate 32 0)).toArray 25)).alloc (.cells (nums .u8 (List.replicate 32 0)).toArray 25)) w.heap.size (w.heap.size + 1) (List.replicate 32 0) := by
    refine ⟨blk_alloc (heap_alloc_new w _) _, ?_, below_alloc (below_alloc (Below.refl _ w) _) _⟩
    have := heap_alloc_new (w.alloc (.cells (nums .u8 (List.replicate 32 0)).toArray 25)) (.cells (nums .u8 (List.replicate 32 0)).toArray 25)
    rwa [size_alloc] at this
  have HY := Aside0.mk hy
  clear hy
  by_cases h64 : s.size = 64
  · have hb1 : ((s.size : Int) == 64) = true := by simp; omega
    have hb2 : ((s.size : Int) != 64) = false := by simp; omega
    have HLE := Aside0.mk (show (bytesOf s).length = 64 by rw [bytesOf_length]; exact h64)
    have hss : s.size ≤ 64 := by omega
    have hs2 : 64 ≤ s.size := by omega
    have HBT := Aside0.mk (fun k => rd_bytesOf s ((k : Nat) : Int))
    clear h64
    go_enter Try.func20, Try.ntmps20
    go_wp2
    clear hb1 hb2
    go_loopw [5] (fun i wr => ∃ (k : Nat), i = .int .i64 (k : Int) ∧ k ≤ 64 ∧ Aside0 (Y1 w wr w.heap.size (w.heap.size + 1) (hx (bytesOf s) k)) ∧ Aside0 (Upto (bytesOf s) k)) (fun i _ => 64 - (intOf i).toNat)
    case atStart => exact ⟨0, rfl, by omega, HY, ⟨fun j hj => by omega⟩⟩
    case round =>
      clear HY
      obtain ⟨k, rfl, hk, HX, HU⟩ := hrel
      by_cases hlt : k < 64
      · have c1 := HX.out.h.cell (k / 2) (by rw [hx_len]; omega)
        have f1 := HX.out.h.fr (k / 2)
        have hc : (bytesOf s).getD k 0 = bt s (k : Int) := by rw [← HBT.out k, rd_nat]
        have hbt : ∀ h : k < s.size, ((s[k]'h).toNat : Int) = bt s (k : Int) := fun h => bt_at s (k : Int) h
        have hbr := bt_range s (k : Int)
        obtain ⟨c, hcc⟩ : ∃ c, bt s (k : Int) = c := ⟨_, rfl⟩
        rw [hcc] at hc hbt hbr
        obtain ⟨x, hx0⟩ : ∃ c, (hx (bytesOf s) k).getD (k / 2) 0 = c := ⟨_, rfl⟩
        rw [hx0] at c1
        have HC := Aside0.mk hc
        have HX0 := Aside0.mk hx0
        clear hc hx0 hcc
        have e1 : ((k : Int) / 2).toNat = k / 2 := by omega
        have e2 : 0 ≤ (k : Int) / 2 := by omega
        have e3 : (k : Int) / 2 < 32 := by omega
        have hki : k < s.size := by omega
        cases hh : isHex c with
        | true =>
          have HH := Aside0.mk hh
          have hn := nib_r hh
          have hU2 : Upto (bytesOf s) (k + 1) := fun j hj => by
            by_cases h : j = k
            · subst h; rw [HC.out]; exact HH.out
            · exact HU.out j (by omega)
          have HU2 := Aside0.mk hU2
          by_cases h9 : c ≤ 57
          · have hnb : nib c = c - 48 := by unfold nib; rw [if_pos h9]
            have h48 : 48 ≤ c := by rw [hnb] at hn; omega
            have HNB := Aside0.mk hnb
            clear hnb hU2 hh hn HU
            go_wp2
            refine ⟨⟨k + 1, by go_num, by omega, ⟨?_⟩, HU2⟩, by simp [intOf]; omega⟩
            have := HX.out.put (by omega) (by omega) (k / 2) ((x * 16 + nib c) % 256)
            rw [hx, HX0.out, HC.out]
            rw [low16 x (nib c) (by rw [HNB.out]; omega) (by rw [HNB.out]; omega), HNB.out] at this ⊢
            exact this
          · have hnb : nib c = c - 97 + 10 := by unfold nib; rw [if_neg h9]; omega
            have h48 : 97 ≤ c := by unfold isHex at hh; simp at hh; omega
            have h102 : c ≤ 102 := by rw [hnb] at hn; omega
            have HNB := Aside0.mk hnb
            clear hnb hU2 hh hn HU
            go_wp2
            refine ⟨⟨k + 1, by go_num, by omega, ⟨?_⟩, HU2⟩, by simp [intOf]; omega⟩
            have := HX.out.put (by omega) (by omega) (k / 2) ((x * 16 + nib c) % 256)
            rw [hx, HX0.out, HC.out]
            rw [low16 x (nib c) (by rw [HNB.out]; omega) (by rw [HNB.out]; omega), HNB.out] at this ⊢
            exact this
        | false =>
          have hbad := fh_bad (bytesOf s) k (by rw [HLE.out]; omega) (by rw [HC.out]; exact hh)
          have HBAD := Aside0.mk hbad
          have h3 : c < 48 ∨ (57 < c ∧ c < 97) ∨ 102 < c := by unfold isHex at hh; simp at hh; omega
          clear hbad hh
          rcases h3 with h3 | ⟨h3, h4⟩ | h3
          all_goals
            go_wp2_with (first | (refine wpList_build_eq rfl 25 _ rfl Z32 (by kernel_rfl) ?_) | (refine wpList_store_row rfl 25 (.tmp 2) (.tmp 19) rfl w.heap.size Z32 rfl rfl 25 _ HX.out.r (by rw [show Z32.size = 32 from by kernel_rfl]; kernel_rfl) (by kernel_rfl) (by kernel_rfl) ?_))
            exact bodyPost_ret (results_row_tmp rfl _ _ w.heap.size 25 _ (0, 0) _ rfl (ret_zero HX.out.r) Try.underlying25 rfl (by kernel_rfl) (.int .i64 3) rfl) rfl ⟨by rw [HBAD.out.1, HBAD.out.2], below_setRow HX.out.b (Nat.le_refl _) _⟩
      · have hkk : k = 64 := by omega
        subst hkk
        rw [show ((64 : Nat) : Int) = 64 from rfl]
        have hgd := fh_good (bytesOf s) HLE.out HU.out
        have HGD := Aside0.mk hgd
        clear hgd
        go_wp2_with (first | (refine wpList_load_row rfl 25 (.tmp 4) rfl (w.heap.size + 1) rfl 25 _ (0, 0) _ HX.out.h Try.underlying25 rfl (by rw [List.size_toArray, nums_length, hx_len]; kernel_rfl) ?_) | (refine wpList_store_row rfl 25 (.tmp 2) (.tmp 49) rfl w.heap.size _ rfl rfl 25 _ HX.out.r (by rw [List.size_toArray, nums_length, hx_len]; kernel_rfl) (show (32 : Nat) = _ from by rw [List.size_toArray, nums_length, hx_len]) (u8_one _) ?_))
        exact bodyPost_ret (results_row_tmp rfl _ _ w.heap.size 25 _ (0, 0) _ rfl (setRow_heap _ _ _ _ _ _ HX.out.r) Try.underlying25 rfl (by rw [List.size_toArray, nums_length, hx_len]; kernel_rfl) (.int .i64 0) rfl) rfl ⟨by rw [HGD.out.1, HGD.out.2], below_setRow HX.out.b (Nat.le_refl _) _⟩
  · have hb1 : ((s.size : Int) == 64) = false := by simp; omega
    have hb2 : ((s.size : Int) != 64) = true := by simp; omega
    have hsh := fh_short (bytesOf s) (by rw [bytesOf_length]; exact h64)
    have HSH := Aside0.mk hsh
    clear hsh
    go_enter Try.func20, Try.ntmps20
    go_wp2_with (first | (refine wpList_load_row rfl 25 (.tmp 4) rfl (w.heap.size + 1) rfl 25 _ (0, 0) _ HY.out.h Try.underlying25 rfl (by kernel_rfl) ?_) | (refine wpList_store_row rfl 25 (.tmp 2) (.tmp 11) rfl w.heap.size _ rfl rfl 25 _ HY.out.r (by kernel_rfl) (by kernel_rfl) (u8_one _) ?_))
    exact bodyPost_ret (results_row_tmp rfl _ _ w.heap.size 25 _ (0, 0) _ rfl (setRow_heap _ _ _ _ _ _ HY.out.r) Try.underlying25 rfl (by kernel_rfl) (.int .i64 3) rfl) rfl ⟨by rw [HSH.out.1, HSH.out.2]; rfl, below_setRow HY.out.b (Nat.le_refl _) _⟩
end Go.Proofs.Ytlkddmkfllnnhaa.Dg
