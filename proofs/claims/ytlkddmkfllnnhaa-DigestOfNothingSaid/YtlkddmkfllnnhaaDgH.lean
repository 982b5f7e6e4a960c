/- digest: Mac's closure. Own work. -/
import Derived.Test.YtlkddmkfllnnhaaDgN
import Derived.Test.YtlkddmkfllnnhaaX
namespace Go.Proofs.Ytlkddmkfllnnhaa.Dg
set_option linter.unusedVariables false
set_option linter.unusedSimpArgs false
open Go.RowKit Go.Proofs.Ytlkddmkfllnnhaa.Md Go.Proofs.Ytlkddmkfllnnhaa.PL Go.Proofs.YtlkddmkfllnnhaaW.PrintWords Go.Proofs.YtlkddmkfllnnhaaW.PrintLast Go.Proofs.YtlkddmkfllnnhaaW.PrintMore

/-- a key in sixty-four bytes -/
def key64 (key : List Int) : List Int := key ++ List.replicate (64 - key.length) 0
def xorAll (x : Int) (z : List Int) : List Int := z.map fun y => Go.bits .xor .u8 y x
theorem key64_len (key : List Int) (h : key.length ≤ 64) : (key64 key).length = 64 := by simp [key64]; omega
theorem xorAll_len (x : Int) (z : List Int) : (xorAll x z).length = z.length := by simp [xorAll]
theorem xorAll_B8 (x : Int) (z : List Int) : B8 (xorAll x z) := fun y hy => by
  obtain ⟨i, _, rfl⟩ := List.mem_map.1 hy
  exact wu8_r _
/-- a list whose first k are turned -/
def part (f : Int → Int) (z : List Int) (k : Nat) : List Int := (z.take k).map f ++ z.drop k
theorem part_len (f : Int → Int) (z : List Int) (k : Nat) : (part f z k).length = z.length := by simp [part]; omega
theorem part_get (f : Int → Int) (z : List Int) (k : Nat) (h : k < z.length) : (part f z k).getD k 0 = z.getD k 0 := by
  have hl : ((z.take k).map f).length = k := by simp; omega
  simp only [part, List.getD_eq_getElem?_getD]
  rw [List.getElem?_append_right (by omega), hl, Nat.sub_self, List.getElem?_drop, Nat.add_zero]
theorem part_set (f : Int → Int) (z : List Int) (k : Nat) (h : k < z.length) : (part f z k).set k (f (z.getD k 0)) = part f z (k + 1) := by
  have hl : ((z.take k).map f).length = k := by simp; omega
  unfold part
  rw [List.set_append, hl, if_neg (by omega), Nat.sub_self, List.drop_eq_getElem_cons h, List.set_cons_zero, List.take_succ_eq_append_getElem h, List.map_append, List.append_assoc]
  simp [List.getD_eq_getElem?_getD, h]
theorem part_all (f : Int → Int) (z : List Int) : part f z z.length = z.map f := by simp [part]

set_option maxHeartbeats 4000000 in
set_option maxRecDepth 100000 in
theorem mac1_any (x : Int) (A Ak : Option Addr) (c ck gk : Nat) (b key : List Int) (w : World) (hk : w.heap[gk]? = some (.cells #[.slice Ak key.length ck] 22 (0, 0))) (hCk : (Kd.int .u8).C w Ak key.length key) (hC : (Kd.int .u8).C w A b.length b)
    (hkl : key.length ≤ 64) (hl : b.length ≤ 140737488340000) (hb : B8 b) :
    Calls Try.prog 33 #[.int .u8 x, .slice A b.length c, .pointer (some ⟨gk, 0, none⟩)] w fun e w' => e = .returned (.agg (nums .u8 (sha (xorAll x (key64 key) ++ b))).toArray) ∧ Below w.heap.size w w' := by
  have HC := Aside0.mk hC
  have HCK := Aside0.mk hCk
  have HK := Aside0.mk hk
  have HB8 := Aside0.mk hb
  have hgk := blk_lt hk
  have hkc : ∀ W, Below w.heap.size w W → W.cell? ⟨gk, 0, none⟩ = some (.slice Ak key.length ck) := fun W h => (blk_cell ((h.block gk hgk).trans hk) 0).trans rfl
  have HKC := Aside0.mk hkc
  clear hC hCk hk hb hkc
  go_enter Try.func33, Try.ntmps33
  go_upto_region 2 with (refine Kd.R_makec (Kd.int .u8) (w0 := w) w.heap.size 5 rfl (N := 11) rfl 22 _ (.tmp 10) rfl 64 (64 + (b.length : Int)) rfl rfl Try.underlying22 (.int .u8 0) 1 info5 rfl (by decide) (by decide) (0 : Int) (ok := fun _ => True) (okp := fun _ => True) rfl (fun _ h => h) trivial (by decide) (by omega) (by omega) (below_alloc (Below.refl _ w) _) (by simp) ?_; intro v1 w1 ho hb hg hat; have HG0 : Aside0 (G0 w w1 w.heap.size v1 (List.replicate 64 0)) := ⟨⟨hg.block _ (by simp) (by simp) |>.trans (heap_alloc_new w _), ho, hb⟩⟩; clear ho hb hg hat)
  have hfo := (Kd.own_of_R HG0.out.r).form (by rw [List.length_replicate]; decide)
  rw [List.length_replicate] at hfo
  obtain ⟨g, cap, rfl, hgb, hgl⟩ := hfo
  have hc0 := HKC.out w1 HG0.out.b
  go_wp2_with (refine Kd.R_copy (0 : Int) (w0 := w) w.heap.size rfl (.tmp 12) (.tmp 13) 22 22 5 rfl Try.underlying22 (by kernel_rfl) (.slice (some ⟨g, 0, none⟩) 64 cap) (List.replicate 64 0) key Ak key.length ck (fun _ => True) rfl rfl HG0.out.r (Kd.C_below HCK.out HG0.out.b) HG0.out.b HG0.out.b.size ?_; intro w2 ho hb hg; rw [List.length_replicate, Nat.min_eq_left hkl, List.take_length, List.drop_replicate] at ho; have HG1 : Aside0 (G0 w w2 w.heap.size (.slice (some ⟨g, 0, none⟩) 64 cap) (key64 key)) := ⟨HG0.out.step hg ho hb⟩; clear ho hb hg HG0 hc0)
  have hzl := key64_len key hkl
  obtain ⟨z, hz⟩ : ∃ z, key64 key = z := ⟨_, rfl⟩
  rw [hz] at HG1 hzl
  have HZ := Aside0.mk hz
  have HZL := Aside0.mk hzl
  clear hz hzl
  go_loopw [17] (fun i wr => ∃ (k : Nat), i = .int .i64 (k : Int) ∧ k ≤ 64 ∧ Aside0 (G0 w wr w.heap.size (.slice (some ⟨g, 0, none⟩) 64 cap) (part (fun y => Go.bits .xor .u8 y x) z k))) (fun i _ => 64 - (intOf i).toNat)
  case atStart => exact ⟨0, rfl, by omega, by rw [show part (fun y => Go.bits .xor .u8 y x) z 0 = z from rfl]; exact HG1⟩
  case round =>
    clear HG1
    obtain ⟨k, rfl, hk, HG⟩ := hrel
    have hpl : (part (fun y => Go.bits .xor .u8 y x) z k).length = 64 := by rw [part_len, HZL.out]
    by_cases hlt : k < 64
    · have hown := Kd.own_of_R HG.out.r
      rw [hpl] at hown
      obtain ⟨c1, f1⟩ := own_at_of (d := (0 : Int)) hown (k : Int) (by omega) (by omega)
      rw [Int.toNat_natCast, rdOf, Int.toNat_natCast, part_get _ _ _ (by rw [HZL.out]; omega)] at c1
      rw [Int.toNat_natCast] at f1
      obtain ⟨y0, hy0⟩ : ∃ y, z.getD k 0 = y := ⟨_, rfl⟩
      rw [hy0] at c1
      have HY := Aside0.mk hy0
      have HPL := Aside0.mk hpl
      clear hy0 hown hpl
      go_wp2
      refine ⟨⟨k + 1, by go_num, by omega, ⟨?_⟩⟩, by simp [intOf]; omega⟩
      have hr := HG.out.r
      have hput := Kd.R_put (enc := Value.int .u8) (xs := part (fun y => Go.bits .xor .u8 y x) z k) (g := g) (cap := cap) (by rw [HPL.out]; exact hr) (k : Int) (Go.bits .xor .u8 y0 x)
      rw [Int.toNat_natCast, HPL.out, ← HY.out, part_set (fun y => Go.bits .xor .u8 y x) z k (by rw [HZL.out]; omega), HY.out] at hput
      exact ⟨blk_grown HG.out.h hput.2 (by have := blk_lt HG.out.h; intro e; injection e with e; exact absurd (Kd.R_ne HG.out.r HG.out.h (by decide)) (by simp [Value.ownBlock, e])), hput.1, HG.out.b.setCell (by show w.heap.size ≤ g; omega) _⟩
    · have hkk : k = 64 := by omega
      subst hkk
      rw [show ((64 : Nat) : Int) = 64 from rfl]
      have hpa : part (fun y => Go.bits .xor .u8 y x) z 64 = xorAll x (key64 key) := by rw [HZ.out, ← HZL.out, part_all]; rfl
      rw [hpa] at HG hpl
      obtain ⟨q, hq⟩ : ∃ q, xorAll x (key64 key) = q := ⟨_, rfl⟩
      rw [hq] at HG hpl
      have HQ := Aside0.mk hq
      clear hpa hq
      go_wp2_with (first | ((with_reducible refine gate_builtin (b := .append) (xs := #[.tmp 28, .tmp 29]) rfl ?_); at_builtin; refine Kd.R_append_rows (Kd.int .u8) (w0 := w) w.heap.size rfl (.tmp 28) (.tmp 29) 22 5 (.int .u8 0) 1 rfl Try.underlying22 info5 rfl (by decide) (by omega) (.slice (some ⟨g, 0, none⟩) 64 cap) q b _ _ _ (fun _ => True) (fun _ => False) rfl rfl HG.out.r (Kd.C_below HC.out HG.out.b) (fun _ _ h => h) (fun _ h => h.elim) (fun _ _ => trivial) HG.out.b HG.out.b.size (by rw [hpl]; omega) ?_; intro v3 w3 ho hb hg hat; obtain ⟨qb, hqb⟩ : ∃ y, q ++ b = y := ⟨_, rfl⟩; rw [hqb] at ho; have HQB := Aside0.mk hqb; clear hqb; have HG3 := Aside0.mk (HG.out.step hg ho hb); clear ho hb hg hat HG; obtain ⟨A3, c3, rfl⟩ := Kd.R_slice HG3.out.r) | (go_at_call 10; (with_reducible refine (sum_any _ _ _ _ (Kd.R_reads' HG3.out.r).2.2 (Kd.R_reads' HG3.out.r).2.1 (by rw [← HQB.out, List.length_append, hpl]; omega) (by rw [← HQB.out, ← HQ.out]; exact (xorAll_B8 _ _).append HB8.out)).mono ?_); rintro e w4 ⟨rfl, hb4⟩; have HH4 := Aside0.mk ((hb4.block _ (blk_lt HG3.out.h)).trans HG3.out.h); have HB4 := Aside0.mk (below_then HG3.out.b HG3.out.b.size hb4); clear hb4 HG3) | (refine wpList_store_row rfl 25 (.tmp 5) (.tmp 31) rfl w.heap.size _ rfl rfl 25 _ HH4.out (by rw [List.size_toArray, nums_length, sha_len]; kernel_rfl) (by rw [List.size_toArray, List.size_toArray, nums_length, nums_length, sha_len]; rfl) (u8_one _) ?_))
      exact bodyPost_ret (results_cell_row rfl _ _ w.heap.size 25 _ (0, 0) _ rfl (setRow_heap _ _ _ _ _ _ HH4.out) Try.underlying25 rfl (by rw [List.size_toArray, nums_length, sha_len]; kernel_rfl)) rfl ⟨by rw [HQ.out, HQB.out], below_setRow HB4.out (Nat.le_refl _) _⟩
end Go.Proofs.Ytlkddmkfllnnhaa.Dg
