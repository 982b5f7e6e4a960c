/- digest: Sum. Own work. -/
import Derived.Test.YtlkddmkfllnnhaaDgE
import Derived.StillTailTactics
namespace Go.Proofs.Ytlkddmkfllnnhaa.Dg
set_option linter.unusedVariables false
set_option linter.unusedSimpArgs false
open Go.RowKit Go.Proofs.Ytlkddmkfllnnhaa.Md Go.Proofs.Ytlkddmkfllnnhaa.PL Go.Proofs.YtlkddmkfllnnhaaW.PrintWords Go.Proofs.YtlkddmkfllnnhaaW.PrintLast Go.Proofs.YtlkddmkfllnnhaaW.PrintMore

/-- SHA-256 -/
def sha (l : List Int) : List Int := fin H0 (pad l (l.length : Int))
theorem sha_len (l : List Int) : (sha l).length = 32 := dig_len _ _
theorem sha_B8 (l : List Int) : B8 (sha l) := dig_B8 _ _
theorem H0_U32 : U32 H0 := by unfold H0; intro x hx; simp only [List.mem_cons, List.not_mem_nil, or_false] at hx; omega
theorem takes_app (ss a b : List Int) (q : Nat) (ha : a.length = 64 * q) (m : Nat) : takes ss (a ++ b) (q + m) = takes (takes ss a q) b m := by
  have h1 : ∀ k, k ≤ q → takes ss (a ++ b) k = takes ss a k := by
    intro k
    induction k with
    | zero => intro _; rfl
    | succ k ih =>
      intro hk
      simp only [takes, ih (by omega)]
      congr 1
      rw [List.drop_append_of_le_length (by omega), List.take_append_of_le_length (by rw [List.length_drop]; omega)]
  induction m with
  | zero => exact h1 q (Nat.le_refl _)
  | succ m ih =>
    rw [show q + (m + 1) = (q + m) + 1 from by omega]
    simp only [takes, ih]
    congr 2
    rw [show 64 * (q + m) = a.length + 64 * m from by omega, List.drop_append]
    simp
theorem sha_split (l : List Int) : fin (takes H0 l (l.length / 64)) (pad (l.drop (l.length / 64 * 64)) (l.length : Int)) = sha l := by
  have hz : padz ((l.drop (l.length / 64 * 64)).length + 1) = padz (l.length + 1) := by
    unfold padz; rw [List.length_drop]; omega
  have hp : pad l (l.length : Int) = l.take (l.length / 64 * 64) ++ pad (l.drop (l.length / 64 * 64)) (l.length : Int) := by
    unfold pad
    rw [hz]
    conv => lhs; rw [← List.take_append_drop (l.length / 64 * 64) l]
    simp only [List.append_assoc]
    simp [len8]
  have hl : (l.take (l.length / 64 * 64)).length = 64 * (l.length / 64) := by rw [List.length_take]; omega
  have ht : takes H0 l (l.length / 64) = takes H0 (l.take (l.length / 64 * 64)) (l.length / 64) := by
    have := takes_app H0 (l.take (l.length / 64 * 64)) (l.drop (l.length / 64 * 64)) (l.length / 64) hl 0
    rw [List.take_append_drop] at this
    exact this
  unfold sha fin
  rw [hp, List.length_append, hl, ht, show (64 * (l.length / 64) + (pad (l.drop (l.length / 64 * 64)) (l.length : Int)).length) / 64 = l.length / 64 + (pad (l.drop (l.length / 64 * 64)) (l.length : Int)).length / 64 from by omega, takes_app _ _ _ _ hl]
set_option maxHeartbeats 4000000 in
set_option maxRecDepth 100000 in
theorem sum_any (A : Option Addr) (c : Nat) (l : List Int) (w : World) (hC : (Kd.int .u8).C w A l.length l) (hc : l.length ≤ c) (hl : l.length ≤ 140737488350000) (hb : B8 l) :
    Calls Try.prog 10 #[.slice A l.length c] w fun e w' => e = .returned (.agg (nums .u8 (sha l)).toArray) ∧ Below w.heap.size w w' := by
  have HC := Aside0.mk hC
  have HB8 := Aside0.mk hb
  clear hC hb
  go_enter Try.func10, Try.ntmps10
  go_upto_region 2 with (first | (go_at_call 27; refine (begun_any _).mono ?_; rintro e w1 ⟨rfl, hb1⟩; have HB1 := Aside0.mk hb1; clear hb1) | (refine wpList_store_row rfl 50 (.tmp 3) (.tmp 4) rfl w1.heap.size (nums .u32 H0).toArray rfl rfl 50 _ (heap_alloc_new w1 _) (by kernel_rfl) (by kernel_rfl) (by kernel_rfl) ?_; rw [World.setRow_alloc_new]))
  have hbl : Below w.heap.size w (w1.alloc (.cells (nums .u32 H0).toArray 50)) := below_alloc (below_then (below_alloc (Below.refl _ w) _) (by simp) HB1.out) _
  have hbs := HB1.out.size
  rw [size_alloc] at hbs
  have HT := Aside0.mk (take_any w (w1.alloc (.cells (nums .u32 H0).toArray 50)) w1.heap.size 50 [] H0 A c l (by have := heap_alloc_new w1 (.cells (nums .u32 H0).toArray 50); simpa [Ax] using this) rfl H0_U32 (by omega) hbl (fun W h1 h2 => Kd.C_below HC.out h1) hc (by omega) HB8.out)
  have hr1 : (w1.alloc (.cells (nums .u32 H0).toArray 50)).heap[w.heap.size]? = some (.cells (nums .u8 (List.replicate 32 0)).toArray 25 (0, 0)) := blk_alloc ((HB1.out.block w.heap.size (by simp)).trans (heap_alloc_new w _)) _
  have HR1 := Aside0.mk hr1
  clear hbl hr1
  go_wp2_with (go_at_call 28; refine HT.out.mono ?_; rintro e w2 ⟨rfl, hs2, hb2, hk2⟩)
  obtain ⟨s0, s1, s2, s3, s4, s5, s6, s7, he⟩ := eight (show (takes H0 l (l.length / 64)).length = 8 by rw [takes_len]; rfl)
  have hsu : U32 (takes H0 l (l.length / 64)) := takes_U32 H0_U32 _ _
  rw [he] at hs2 hsu
  have c0 := hs2.cell 0 (by simp)
  have c1 := hs2.cell 1 (by simp)
  have c2 := hs2.cell 2 (by simp)
  have c3 := hs2.cell 3 (by simp)
  have c4 := hs2.cell 4 (by simp)
  have c5 := hs2.cell 5 (by simp)
  have c6 := hs2.cell 6 (by simp)
  have c7 := hs2.cell 7 (by simp)
  simp only [List.getD_cons_zero, List.getD_cons_succ] at c0 c1 c2 c3 c4 c5 c6 c7
  have hr2 : w2.heap[w.heap.size]? = some (.cells (nums .u8 (List.replicate 32 0)).toArray 25 (0, 0)) := (hk2.2 _ (blk_lt HR1.out) (by omega) (by simp)).trans HR1.out
  obtain ⟨i0, hi0, _, hsz0, _⟩ := info_parts info5
  obtain ⟨A2, hcut, hA2, _⟩ := print_drop_of (P := Try.prog) (Value.int .u8) 0 22 5 .i64 Try.underlying22 hi0 hsz0 A c l (((l.length / 64 * 64 : Nat) : Int)) (by omega) (by omega) hc
  rw [Int.toNat_natCast] at hcut hA2
  have hC2 : (Kd.int .u8).C w2 A2 (l.drop (l.length / 64 * 64)).length (l.drop (l.length / 64 * 64)) := Kd.C_of_reads (h1 := fun _ => rfl) (hA2 w2 (Kd.reads_of_C (Kd.C_below HC.out hb2)))
  have hfin := sha_split l
  rw [he] at hfin
  have hqb : B8 (l.drop (l.length / 64 * 64)) := HB8.out.drop _
  have hql : (l.drop (l.length / 64 * 64)).length ≤ 140737488350000 := by rw [List.length_drop]; omega
  obtain ⟨q, hq⟩ : ∃ q, l.drop (l.length / 64 * 64) = q := ⟨_, rfl⟩
  rw [hq] at hcut hC2 hfin hqb hql
  have HEN := Aside0.mk (fun W => ended_any s0 s1 s2 s3 s4 s5 s6 s7 A2 (c - l.length / 64 * 64) q (l.length : Int) W)
  have HX := Aside0.mk (And.intro hC2 (And.intro hqb (And.intro hsu hfin)))
  have HR2 := Aside0.mk hr2
  have HB2 := Aside0.mk hb2
  clear HT hs2 hb2 hk2 he hsu hr2 hi0 hsz0 hA2 hC2 hfin hqb hq HB1 HR1 hbs
  have e1 : IntKind.u64.wrap (l.length : Int) = (l.length : Int) := by rw [IntKind.wrap_u64]; omega
  obtain ⟨N, hN⟩ : ∃ N : Nat, l.length / 64 * 64 = N := ⟨_, rfl⟩
  rw [hN] at hcut HEN
  have e2 : IntKind.i64.wrap ((l.length : Int) / 64) = (l.length : Int) / 64 := IntWalk.i64_in _ (by omega)
  have e3 : IntKind.i64.wrap ((l.length : Int) / 64 * 64) = (N : Int) := by rw [IntWalk.i64_in _ (by omega)]; omega
  clear hN
  go_still_tail 10, (by kernel_rfl)
  change wpList _ _ _ _ _ w2.drew
  clear e1 e2 e3 hcut c0 c1 c2 c3 c4 c5 c6 c7
  have HR3 : Aside0 (w2.drew.heap[w.heap.size]? = some (.cells (nums .u8 (List.replicate 32 0)).toArray 25 (0, 0))) := ⟨HR2.out⟩
  have HB3 := Aside0.mk (below_drew HB2.out)
  have HE := Aside0.mk (HEN.out w2.drew (show (Kd.int .u8).C w2.drew A2 q.length q from Kd.C_below HX.out.1 (below_drew (Below.refl _ _))) hql HX.out.2.1 HX.out.2.2.1 (by omega) (by omega))
  have HF := Aside0.mk HX.out.2.2.2
  clear HEN HX HR2 HB2
  generalize w2.drew = w3 at *
  rw [HF.out] at HE
  go_wp2_with (first | (go_at_call 29; refine HE.out.mono ?_; rintro e w4 ⟨rfl, hb4⟩; have HB4 := Aside0.mk (below_then HB3.out HB3.out.size hb4); have HR4 := Aside0.mk ((hb4.block _ (blk_lt HR3.out)).trans HR3.out); clear hb4) | (refine wpList_store_row rfl 25 (.tmp 2) (.tmp 17) rfl w.heap.size _ rfl rfl 25 _ HR4.out (by rw [List.size_toArray, nums_length, sha_len]; kernel_rfl) (by rw [List.size_toArray, List.size_toArray, nums_length, nums_length, sha_len]; rfl) (u8_one _) ?_))
  exact bodyPost_ret (results_cell_row rfl _ _ w.heap.size 25 _ (0, 0) _ rfl (setRow_heap _ _ _ _ _ _ HR4.out) Try.underlying25 rfl (by rw [List.size_toArray, nums_length, sha_len]; kernel_rfl)) rfl ⟨rfl, below_setRow HB4.out (Nat.le_refl _) _⟩
end Go.Proofs.Ytlkddmkfllnnhaa.Dg
