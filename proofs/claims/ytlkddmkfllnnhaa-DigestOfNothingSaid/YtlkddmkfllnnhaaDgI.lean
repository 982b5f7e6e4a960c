/- digest: Mac. Own work. -/
import Derived.Test.YtlkddmkfllnnhaaDgH
namespace Go.Proofs.Ytlkddmkfllnnhaa.Dg
set_option linter.unusedVariables false
set_option linter.unusedSimpArgs false
open Go.RowKit Go.Proofs.Ytlkddmkfllnnhaa.Md Go.Proofs.Ytlkddmkfllnnhaa.PL Go.Proofs.YtlkddmkfllnnhaaW.PrintWords Go.Proofs.YtlkddmkfllnnhaaW.PrintLast Go.Proofs.YtlkddmkfllnnhaaW.PrintMore

def keyOf (key : List Int) : List Int := if 64 < key.length then sha key else key
def mac (key b : List Int) : List Int := sha (xorAll 92 (key64 (keyOf key)) ++ sha (xorAll 54 (key64 (keyOf key)) ++ b))
theorem mac_len (key b : List Int) : (mac key b).length = 32 := sha_len _
theorem AB.reads {w : World} {g t : Nat} {xs : List Int} (h : AB w g t xs) (hl : xs.length ≤ 9223372036854775807) : (Kd.int .u8).C w (some ⟨g, 0, none⟩) xs.length xs :=
  Kd.C_of_reads (d := (0 : Int)) (h1 := fun _ => rfl) ⟨rfl, hl, fun _ => ⟨_, rfl, fun j hj => by rw [add_plain]; exact h.cell j hj⟩⟩

structure M2 (w wr : World) (gk gr : Nat) (Ak : Option Addr) (ck : Nat) (key : List Int) : Prop where
  k : wr.heap[gk]? = some (.cells #[.slice Ak key.length ck] 22 (0, 0))
  r : AB wr gr 25 (List.replicate 32 0)
  c : (Kd.int .u8).C wr Ak key.length key
  b : Below w.heap.size w wr
theorem M2.step {w wr w1 : World} {gk gr : Nat} {Ak : Option Addr} {ck : Nat} {key : List Int} (h : M2 w wr gk gr Ak ck key) (hb : Below wr.heap.size wr w1) : M2 w w1 gk gr Ak ck key :=
  ⟨(hb.block _ (blk_lt h.k)).trans h.k, (hb.block _ (blk_lt h.r)).trans h.r, Kd.C_below h.c hb, below_then h.b h.b.size hb⟩
set_option maxHeartbeats 4000000 in
set_option maxRecDepth 100000 in
theorem mac_small (A Ak : Option Addr) (c ck : Nat) (b key : List Int) (w : World) (hCk : (Kd.int .u8).C w Ak key.length key) (hkc : key.length ≤ ck) (hC : (Kd.int .u8).C w A b.length b)
    (hbig : key.length ≤ 64) (hkl : key.length ≤ 140737488340000) (hl : b.length ≤ 140737488340000) (hkb : B8 key) (hb : B8 b) :
    Calls Try.prog 14 #[.slice Ak key.length ck, .slice A b.length c] w fun e w' => e = .returned (.agg (nums .u8 (mac key b)).toArray) ∧ Below w.heap.size w w' := by
  have HC := Aside0.mk hC
  have HCK := Aside0.mk hCk
  have HB8 := Aside0.mk hb
  have HKB := Aside0.mk hkb
  have HKO := Aside0.mk (show keyOf key = key from by unfold keyOf; rw [if_neg (by omega)])
  clear hC hCk hb hkb
  have hbd : decide ((64 : Int) < (key.length : Int)) = false := decide_eq_false (by omega)
  go_enter Try.func14, Try.ntmps14
  have HM : Aside0 (M2 w ((w.alloc (.cells #[.slice Ak key.length ck] 22)).alloc (.cells (nums .u8 (List.replicate 32 0)).toArray 25)) w.heap.size (w.heap.size + 1) Ak ck key) := by
    refine ⟨⟨blk_alloc (heap_alloc_new w _) _, ?_, Kd.C_alloc (Kd.C_alloc HCK.out _) _, below_alloc (below_alloc (Below.refl _ w) _) _⟩⟩
    have := heap_alloc_new (w.alloc (.cells #[.slice Ak key.length ck] 22)) (.cells (nums .u8 (List.replicate 32 0)).toArray 25)
    rwa [size_alloc] at this
  have hk2 : key.length ≤ 64 := hbig
  go_upto_region 4 with (fail)
  obtain ⟨gr, hgr⟩ : ∃ g, w.heap.size + 1 = g := ⟨_, rfl⟩
  have hgr0 : w.heap.size ≤ gr := by omega
  rw [hgr] at HM ⊢
  clear hgr
  go_wp2_with fail
  refine (mac1_any 54 A Ak c ck w.heap.size b key _ HM.out.k HM.out.c (Kd.C_below HC.out HM.out.b) hk2 (by omega) HB8.out).mono ?_
  rintro e w4 ⟨rfl, hb4⟩
  have HM4 := Aside0.mk (HM.out.step hb4)
  clear hb4 HM
  obtain ⟨p1, hp1⟩ : ∃ p, sha (xorAll 54 (key64 key) ++ b) = p := ⟨_, rfl⟩
  have hpl : p1.length = 32 := by rw [← hp1, sha_len]
  have hpb : B8 p1 := by rw [← hp1]; exact sha_B8 _
  rw [hp1]
  have HP1 := Aside0.mk hp1
  have HPL := Aside0.mk hpl
  have HPB := Aside0.mk hpb
  clear hp1 hpl hpb
  go_upto_region 6 with (refine wpList_store_row rfl 25 (.tmp 7) (.tmp 17) rfl w4.heap.size (nums .u8 p1).toArray rfl rfl 25 _ (heap_alloc_new w4 _) (by rw [List.size_toArray, nums_length, HPL.out]; kernel_rfl) (show (32 : Nat) = _ from by rw [List.size_toArray, nums_length, HPL.out]) (u8_one _) ?_; rw [World.setRow_alloc_new])
  have HM5 := Aside0.mk (HM4.out.step (below_alloc (Below.refl _ w4) (.cells (nums .u8 p1).toArray 25)))
  have hab : AB (w4.alloc (.cells (nums .u8 p1).toArray 25)) w4.heap.size 25 p1 := heap_alloc_new w4 _
  have hrd := hab.reads (by rw [HPL.out]; decide)
  have hcall := mac1_any 92 (some ⟨w4.heap.size, 0, none⟩) Ak 32 ck w.heap.size p1 key _ HM5.out.k HM5.out.c hrd hk2 (by rw [HPL.out]; decide) HPB.out
  rw [HPL.out] at hcall
  have HCALL := Aside0.mk hcall
  clear hab hrd hcall HM4
  go_wp2_with (first | (go_at_call 33; (with_reducible refine HCALL.out.mono ?_); rintro e w6 ⟨rfl, hb6⟩; have HM6 := Aside0.mk (HM5.out.step hb6); clear hb6 HM5) | (refine wpList_store_row rfl 25 (.tmp 4) (.tmp 20) rfl gr _ rfl rfl 25 _ HM6.out.r (by rw [List.size_toArray, nums_length, sha_len]; kernel_rfl) (show (32 : Nat) = _ from by rw [List.size_toArray, nums_length, sha_len]) (u8_one _) ?_))
  exact bodyPost_ret (results_cell_row rfl _ _ gr 25 _ (0, 0) _ rfl (setRow_heap _ _ _ _ _ _ HM6.out.r) Try.underlying25 rfl (by rw [List.size_toArray, nums_length, sha_len]; kernel_rfl)) rfl ⟨by unfold mac; rw [HKO.out, HP1.out], below_setRow HM6.out.b (by omega) _⟩
set_option maxHeartbeats 4000000 in
set_option maxRecDepth 100000 in
theorem mac_big (A Ak : Option Addr) (c ck : Nat) (b key : List Int) (w : World) (hCk : (Kd.int .u8).C w Ak key.length key) (hkc : key.length ≤ ck) (hC : (Kd.int .u8).C w A b.length b)
    (hbig : 64 < key.length) (hkl : key.length ≤ 140737488340000) (hl : b.length ≤ 140737488340000) (hkb : B8 key) (hb : B8 b) :
    Calls Try.prog 14 #[.slice Ak key.length ck, .slice A b.length c] w fun e w' => e = .returned (.agg (nums .u8 (mac key b)).toArray) ∧ Below w.heap.size w w' := by
  have HC := Aside0.mk hC
  have HCK := Aside0.mk hCk
  have HB8 := Aside0.mk hb
  have HKB := Aside0.mk hkb
  have HKO := Aside0.mk (show keyOf key = sha key from by unfold keyOf; rw [if_pos hbig])
  clear hC hCk hb hkb
  have hbd : decide ((64 : Int) < (key.length : Int)) = true := decide_eq_true (by omega)
  go_enter Try.func14, Try.ntmps14
  go_upto_region 3 with (first | (go_at_call 10; (with_reducible refine (sum_any _ _ _ _ (by repeat (first | exact HCK.out | (with_reducible refine Kd.C_alloc ?_ _))) hkc (by omega) HKB.out).mono ?_); rintro e w1 ⟨rfl, hb1⟩; have HB1 := Aside0.mk hb1; clear hb1) | (refine wpList_store_row rfl 25 (.tmp 5) (.tmp 12) rfl w1.heap.size (nums .u8 (sha key)).toArray rfl rfl 25 _ (heap_alloc_new w1 _) (by rw [List.size_toArray, nums_length, sha_len]; kernel_rfl) (show (32 : Nat) = _ from by rw [List.size_toArray, nums_length, sha_len]) (u8_one _) ?_; rw [World.setRow_alloc_new]))
  have hw1 : M2 w (w1.alloc (.cells (nums .u8 (sha key)).toArray 25)) w.heap.size (w.heap.size + 1) Ak ck key := by
    have h0 : M2 w ((w.alloc (.cells #[.slice Ak key.length ck] 22)).alloc (.cells (nums .u8 (List.replicate 32 0)).toArray 25)) w.heap.size (w.heap.size + 1) Ak ck key := by
      refine ⟨blk_alloc (heap_alloc_new w _) _, ?_, Kd.C_alloc (Kd.C_alloc HCK.out _) _, below_alloc (below_alloc (Below.refl _ w) _) _⟩
      have := heap_alloc_new (w.alloc (.cells #[.slice Ak key.length ck] 22)) (.cells (nums .u8 (List.replicate 32 0)).toArray 25)
      rwa [size_alloc] at this
    exact (h0.step HB1.out).step (below_alloc (Below.refl _ _) _)
  have hab : AB (w1.alloc (.cells (nums .u8 (sha key)).toArray 25)) w1.heap.size 25 (sha key) := heap_alloc_new w1 _
  have hws : w.heap.size < w1.heap.size := by have := HB1.out.size; simp at this; omega
  have hk0 := (blk_cell hw1.k 0).trans rfl
  have hk1 := blk_frozen hw1.k 0
  have HW1 := Aside0.mk hw1
  have HAB := Aside0.mk hab
  clear hw1 hab HB1
  generalize (w1.alloc (.cells (nums .u8 (sha key)).toArray 25)) = w2 at *
  obtain ⟨gh, hgh⟩ : ∃ g, w1.heap.size = g := ⟨_, rfl⟩
  rw [hgh] at hws HAB ⊢
  clear hgh
  go_upto_region 4 with (fail)
  have hslen := sha_len key
  have hsb := sha_B8 key
  have hsab := HAB.out
  obtain ⟨k2, hk2e⟩ : ∃ k, sha key = k := ⟨_, rfl⟩
  have HKO2 := Aside0.mk (HKO.out.trans hk2e)
  rw [hk2e] at hslen hsb hsab
  have HM : Aside0 (M2 w (w2.setCell ⟨w.heap.size, 0, none⟩ (.slice (some ⟨gh, 0, none⟩) 32 32)) w.heap.size (w.heap.size + 1) (some ⟨gh, 0, none⟩) 32 k2) :=
    ⟨⟨by rw [hslen]; exact blk_set HW1.out.k 0 _, HW1.out.r.far (by simp) _, AB.reads (hsab.far (by show gh ≠ w.heap.size; omega) _) (by rw [hslen]; decide), below_set HW1.out.b (Nat.le_refl _)⟩⟩
  have hk2 : k2.length ≤ 64 := by omega
  clear HW1 HAB hk0 hk1 hslen hsb hsab hk2e HKO
  have HKO := HKO2
  obtain ⟨gr, hgr⟩ : ∃ g, w.heap.size + 1 = g := ⟨_, rfl⟩
  have hgr0 : w.heap.size ≤ gr := by omega
  rw [hgr] at HM ⊢
  clear hgr
  go_wp2_with fail
  refine (mac1_any 54 A (some ⟨gh, 0, none⟩) c 32 w.heap.size b k2 _ HM.out.k HM.out.c (Kd.C_below HC.out HM.out.b) hk2 (by omega) HB8.out).mono ?_
  rintro e w4 ⟨rfl, hb4⟩
  have HM4 := Aside0.mk (HM.out.step hb4)
  clear hb4 HM
  obtain ⟨p1, hp1⟩ : ∃ p, sha (xorAll 54 (key64 k2) ++ b) = p := ⟨_, rfl⟩
  have hpl : p1.length = 32 := by rw [← hp1, sha_len]
  have hpb : B8 p1 := by rw [← hp1]; exact sha_B8 _
  rw [hp1]
  have HP1 := Aside0.mk hp1
  have HPL := Aside0.mk hpl
  have HPB := Aside0.mk hpb
  clear hp1 hpl hpb
  go_upto_region 6 with (refine wpList_store_row rfl 25 (.tmp 7) (.tmp 17) rfl w4.heap.size (nums .u8 p1).toArray rfl rfl 25 _ (heap_alloc_new w4 _) (by rw [List.size_toArray, nums_length, HPL.out]; kernel_rfl) (show (32 : Nat) = _ from by rw [List.size_toArray, nums_length, HPL.out]) (u8_one _) ?_; rw [World.setRow_alloc_new])
  have HM5 := Aside0.mk (HM4.out.step (below_alloc (Below.refl _ w4) (.cells (nums .u8 p1).toArray 25)))
  have hab : AB (w4.alloc (.cells (nums .u8 p1).toArray 25)) w4.heap.size 25 p1 := heap_alloc_new w4 _
  have hrd := hab.reads (by rw [HPL.out]; decide)
  have hcall := mac1_any 92 (some ⟨w4.heap.size, 0, none⟩) (some ⟨gh, 0, none⟩) 32 32 w.heap.size p1 k2 _ HM5.out.k HM5.out.c hrd hk2 (by rw [HPL.out]; decide) HPB.out
  rw [HPL.out] at hcall
  have HCALL := Aside0.mk hcall
  clear hab hrd hcall HM4
  go_wp2_with (first | (go_at_call 33; (with_reducible refine HCALL.out.mono ?_); rintro e w6 ⟨rfl, hb6⟩; have HM6 := Aside0.mk (HM5.out.step hb6); clear hb6 HM5) | (refine wpList_store_row rfl 25 (.tmp 4) (.tmp 20) rfl gr _ rfl rfl 25 _ HM6.out.r (by rw [List.size_toArray, nums_length, sha_len]; kernel_rfl) (show (32 : Nat) = _ from by rw [List.size_toArray, nums_length, sha_len]) (u8_one _) ?_))
  exact bodyPost_ret (results_cell_row rfl _ _ gr 25 _ (0, 0) _ rfl (setRow_heap _ _ _ _ _ _ HM6.out.r) Try.underlying25 rfl (by rw [List.size_toArray, nums_length, sha_len]; kernel_rfl)) rfl ⟨by unfold mac; rw [HKO.out, HP1.out], below_setRow HM6.out.b (by omega) _⟩

end Go.Proofs.Ytlkddmkfllnnhaa.Dg
