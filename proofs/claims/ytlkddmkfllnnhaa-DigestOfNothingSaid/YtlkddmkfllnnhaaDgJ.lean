/- digest: the reference's Mac. Own work. -/
import Derived.Test.YtlkddmkfllnnhaaDgI
namespace Go.Proofs.Ytlkddmkfllnnhaa.Dg
set_option linter.unusedVariables false
set_option linter.unusedSimpArgs false
open Go.RowKit Go.Proofs.Ytlkddmkfllnnhaa.Md Go.Proofs.Ytlkddmkfllnnhaa.PL Go.Proofs.YtlkddmkfllnnhaaW.PrintWords Go.Proofs.YtlkddmkfllnnhaaW.PrintLast Go.Proofs.YtlkddmkfllnnhaaW.PrintMore

theorem mac_any (A Ak : Option Addr) (c ck : Nat) (b key : List Int) (w : World) (hCk : (Kd.int .u8).C w Ak key.length key) (hkc : key.length ≤ ck) (hC : (Kd.int .u8).C w A b.length b)
    (hkl : key.length ≤ 140737488340000) (hl : b.length ≤ 140737488340000) (hkb : B8 key) (hb : B8 b) :
    Calls Try.prog 14 #[.slice Ak key.length ck, .slice A b.length c] w fun e w' => e = .returned (.agg (nums .u8 (mac key b)).toArray) ∧ Below w.heap.size w w' := by
  by_cases h : 64 < key.length
  · exact mac_big A Ak c ck b key w hCk hkc hC h hkl hl hkb hb
  · exact mac_small A Ak c ck b key w hCk hkc hC (by omega) hkl hl hkb hb

theorem below_of_grown {W w1 : World} (hg : W.grownBy w1 none) : Below W.heap.size W w1 := ⟨hg.os, hg.tape, hg.output, hg.size, fun k hk => hg.block k hk (by simp)⟩
theorem below_row {W w1 : World} {g : Nat} {n c : Nat} (hg : W.grownBy w1 (Value.slice (some ⟨g, 0, none⟩) n c).ownBlock) (hl : g ≤ W.heap.size) : Below g W w1 :=
  ⟨hg.os, hg.tape, hg.output, hg.size, fun k hk => hg.block k (by omega) (by intro e; injection e with e; (try dsimp only at e); omega)⟩
structure N1 (w wr : World) (g0 : Nat) (Ak : Option Addr) (key : List Int) : Prop where
  h : AB wr g0 25 (List.replicate 32 0)
  c : (Kd.int .u8).C wr Ak key.length key
  b : Below w.heap.size w wr
theorem N1.step {w wr w1 : World} {g0 : Nat} {Ak : Option Addr} {key : List Int} (h : N1 w wr g0 Ak key) (hb : Below wr.heap.size wr w1) : N1 w w1 g0 Ak key :=
  ⟨(hb.block _ (blk_lt h.h)).trans h.h, Kd.C_below h.c hb, below_then h.b h.b.size hb⟩
structure N2 (w wr : World) (g0 g1 g2 c1 c2 : Nat) (xs ys : List Int) : Prop where
  h : AB wr g0 25 (List.replicate 32 0)
  r1 : (Kd.int .u8).R 5 wr w.heap.size (fun k => k = g1) (.slice (some ⟨g1, 0, none⟩) 64 c1) xs
  r2 : (Kd.int .u8).R 5 wr w.heap.size (fun k => k = g2) (.slice (some ⟨g2, 0, none⟩) 64 c2) ys
  b : Below w.heap.size w wr
theorem N2.put1 {w wr : World} {g0 g1 g2 c1 c2 : Nat} {xs ys : List Int} (h : N2 w wr g0 g1 g2 c1 c2 xs ys) (hx : xs.length = 64) (n01 : g0 ≠ g1) (n12 : g2 ≠ g1) (hw : w.heap.size ≤ g1) (k : Nat) (x : Int) :
    N2 w (wr.setCell ⟨g1, k, none⟩ (.int .u8 x)) g0 g1 g2 c1 c2 (xs.set k x) ys := by
  have hr := h.r1
  have hput := Kd.R_put (enc := Value.int .u8) (xs := xs) (g := g1) (cap := c1) (by rw [hx]; exact hr) (k : Int) x
  rw [Int.toNat_natCast, hx] at hput
  exact ⟨h.h.far (by simpa using n01) _, hput.1, Kd.R_far h.r2 (fun k hk => by subst hk; simpa using n12) _, below_set h.b hw⟩
theorem N2.put2 {w wr : World} {g0 g1 g2 c1 c2 : Nat} {xs ys : List Int} (h : N2 w wr g0 g1 g2 c1 c2 xs ys) (hy : ys.length = 64) (n02 : g0 ≠ g2) (n12 : g1 ≠ g2) (hw : w.heap.size ≤ g2) (k : Nat) (x : Int) :
    N2 w (wr.setCell ⟨g2, k, none⟩ (.int .u8 x)) g0 g1 g2 c1 c2 xs (ys.set k x) := by
  have hr := h.r2
  have hput := Kd.R_put (enc := Value.int .u8) (xs := ys) (g := g2) (cap := c2) (by rw [hy]; exact hr) (k : Int) x
  rw [Int.toNat_natCast, hy] at hput
  exact ⟨h.h.far (by simpa using n02) _, Kd.R_far h.r1 (fun k hk => by subst hk; simpa using n12) _, hput.1, below_set h.b hw⟩

set_option maxHeartbeats 4000000 in
set_option maxRecDepth 100000 in
theorem refmac_small (A Ak : Option Addr) (c ck : Nat) (b key : List Int) (w : World) (hCk : (Kd.int .u8).C w Ak key.length key) (hkc : key.length ≤ ck) (hC : (Kd.int .u8).C w A b.length b)
    (hbig : key.length ≤ 64) (hkl : key.length ≤ 140737488340000) (hl : b.length ≤ 140737488340000) (hkb : B8 key) (hb : B8 b) :
    Calls Try.prog 15 #[.slice Ak key.length ck, .slice A b.length c] w fun e w' => e = .returned (.agg (nums .u8 (mac key b)).toArray) ∧ Below w.heap.size w w' := by
  have HC := Aside0.mk hC
  have HCK := Aside0.mk hCk
  have HB8 := Aside0.mk hb
  have HKB := Aside0.mk hkb
  have HKO := Aside0.mk (show keyOf key = key from by unfold keyOf; rw [if_neg (by omega)])
  clear hC hCk hb hkb
  have hbd : decide ((64 : Int) < (key.length : Int)) = false := decide_eq_false (by omega)
  have HN : Aside0 (N1 w (w.alloc (.cells (nums .u8 (List.replicate 32 0)).toArray 25)) w.heap.size Ak key) := ⟨⟨heap_alloc_new w _, Kd.C_alloc HCK.out _, below_alloc (Below.refl _ w) _⟩⟩
  have hk2 : key.length ≤ 64 := hbig
  go_enter Try.func15, Try.ntmps15
  go_upto_region 6 with (first | (refine Kd.R_makec (Kd.int .u8) (w0 := w) w.heap.size 5 rfl (N := 16) rfl 22 _ _ rfl 64 64 rfl rfl Try.underlying22 (.int .u8 0) 1 info5 rfl (by decide) (by decide) (0 : Int) (ok := fun k => k = w.heap.size + 1) (okp := fun _ => False) rfl (fun _ h => h.elim) (by simp) (by decide) (by decide) (by decide) HN.out.b HN.out.b.size ?_; intro v1 w1 ho hb hg hat; have HO1 := Aside0.mk ho; have HN1 := Aside0.mk (HN.out.step (below_of_grown hg)); skip; clear ho hb hg hat HN) | (refine Kd.R_makec (Kd.int .u8) (w0 := w) w.heap.size 5 rfl (N := 17) rfl 22 _ _ rfl 64 64 rfl rfl Try.underlying22 (.int .u8 0) 1 info5 rfl (by decide) (by decide) (0 : Int) (ok := fun k => k = w1.heap.size) (okp := fun _ => False) rfl (fun _ h => h.elim) (by rfl) (by decide) (by decide) (by decide) HN1.out.b HN1.out.b.size ?_; intro v2 w2 ho hb hg hat; have HO2 := Aside0.mk ho; have HN2 := Aside0.mk (HN1.out.step (below_of_grown hg)); have HO1b := Aside0.mk (Kd.R_below HO1.out (below_of_grown hg)); have HG1 := Aside0.mk (fun k hk => own_lt (Kd.own_of_R HO1.out) k hk); clear HO1; clear ho hb hg hat HN1))
  have hf1 := (Kd.own_of_R HO1b.out).form (by rw [List.length_replicate]; decide)
  have hf2 := (Kd.own_of_R HO2.out).form (by rw [List.length_replicate]; decide)
  have ho1 := HO1b.out
  have ho2 := HO2.out
  rw [List.length_replicate, show (64 : Int).toNat = 64 from rfl] at hf1 hf2
  rw [show (64 : Int).toNat = 64 from rfl] at ho1 ho2
  obtain ⟨g1, c1, rfl, hgb1, hgl1⟩ := hf1
  obtain ⟨g2, c2, rfl, hgb2, hgl2⟩ := hf2
  have e1 : g1 = w.heap.size + 1 := ho1.1 g1 rfl
  have e2 : g2 = w1.heap.size := ho2.1 g2 rfl
  have hw12 : g1 < w1.heap.size := HG1.out g1 rfl
  rw [← e1] at ho1
  rw [← e2] at ho2 hw12
  have HM : Aside0 (N2 w w2 w.heap.size g1 g2 c1 c2 (List.replicate 64 0) (List.replicate 64 0)) := ⟨⟨HN2.out.h, ho1, ho2, HN2.out.b⟩⟩
  have HKC : Aside0 (∀ W, Below g1 w2 W → (Kd.int .u8).C W Ak key.length key) := ⟨fun W hW => Kd.C_below HCK.out (HM.out.b.trans (hW.mono (by omega)))⟩
  have HCW := Aside0.mk (HKC.out w2 (Below.refl _ _))
  have hq : w.heap.size < g1 ∧ g1 < g2 := ⟨by omega, hw12⟩
  have HGL := Aside0.mk hgl1
  clear HO1b HO2 HN2 ho1 ho2 e1 e2 hgb1 hgl1 hgb2 hgl2 hw12 HG1
  go_wp2_with (first | (refine Kd.R_copy (0 : Int) (w0 := w) w.heap.size rfl (.tmp 18) (.tmp 19) 22 22 5 rfl Try.underlying22 (by kernel_rfl) (.slice (some ⟨g1, 0, none⟩) 64 c1) (List.replicate 64 0) key Ak key.length ck (fun k => k = g1) rfl rfl HM.out.r1 HCW.out HM.out.b HM.out.b.size ?_; intro w3 ho hb hg; rw [List.length_replicate, Nat.min_eq_left hk2, List.take_length, List.drop_replicate] at ho; have HM3 : Aside0 (N2 w w3 w.heap.size g1 g2 c1 c2 (key64 key) (List.replicate 64 0)) := ⟨⟨blk_grown HM.out.h hg (by intro e; injection e with e; (try dsimp only at e); omega), ho, Kd.R_grown HM.out.r2 hg (fun k hk e => by subst hk; injection e with e; (try dsimp only at e); omega), hb⟩⟩; have HCW3 := Aside0.mk (HKC.out w3 (below_row hg (by have := HGL.out; omega))); clear ho hb hg HM HCW) | (refine Kd.R_copy (0 : Int) (w0 := w) w.heap.size rfl (.tmp 21) (.tmp 22) 22 22 5 rfl Try.underlying22 (by kernel_rfl) (.slice (some ⟨g2, 0, none⟩) 64 c2) (List.replicate 64 0) key Ak key.length ck (fun k => k = g2) rfl rfl HM3.out.r2 HCW3.out HM3.out.b HM3.out.b.size ?_; intro w4 ho hb hg; rw [List.length_replicate, Nat.min_eq_left hk2, List.take_length, List.drop_replicate] at ho; have HM4 : Aside0 (N2 w w4 w.heap.size g1 g2 c1 c2 (key64 key) (key64 key)) := ⟨⟨blk_grown HM3.out.h hg (by intro e; injection e with e; (try dsimp only at e); omega), Kd.R_grown HM3.out.r1 hg (fun k hk e => by subst hk; injection e with e; (try dsimp only at e); omega), ho, hb⟩⟩; clear ho hb hg HM3 HCW3))
  have hzl := key64_len key hk2
  obtain ⟨z, hz⟩ : ∃ z, key64 key = z := ⟨_, rfl⟩
  rw [hz] at HM4 hzl
  have HZ := Aside0.mk hz
  have HZL := Aside0.mk hzl
  clear hz hzl
  go_loopw [8] (fun i wr => ∃ (k : Nat), i = .int .i64 (k : Int) ∧ k ≤ 64 ∧ Aside0 (N2 w wr w.heap.size g1 g2 c1 c2 (part (fun y => Go.bits .xor .u8 y 54) z k) (part (fun y => Go.bits .xor .u8 y 92) z k))) (fun i _ => 64 - (intOf i).toNat)
  case atStart => exact ⟨0, rfl, by omega, by rw [show part (fun y => Go.bits .xor .u8 y 54) z 0 = z from rfl, show part (fun y => Go.bits .xor .u8 y 92) z 0 = z from rfl]; exact HM4⟩
  case round =>
    clear HM4
    obtain ⟨k, rfl, hk, HG⟩ := hrel
    have hp1 : (part (fun y => Go.bits .xor .u8 y 54) z k).length = 64 := by rw [part_len, HZL.out]
    have hp2 : (part (fun y => Go.bits .xor .u8 y 92) z k).length = 64 := by rw [part_len, HZL.out]
    by_cases hlt : k < 64
    · have hown1 := Kd.own_of_R HG.out.r1
      have hown2 := Kd.own_of_R HG.out.r2
      rw [hp1] at hown1
      rw [hp2] at hown2
      obtain ⟨x1, f1⟩ := own_at_of (d := (0 : Int)) hown1 (k : Int) (by omega) (by omega)
      obtain ⟨x2, f2⟩ := own_at_of (d := (0 : Int)) hown2 (k : Int) (by omega) (by omega)
      rw [Int.toNat_natCast, rdOf, Int.toNat_natCast, part_get _ _ _ (by rw [HZL.out]; omega)] at x1 x2
      rw [Int.toNat_natCast] at f1 f2
      obtain ⟨y0, hy0⟩ : ∃ y, z.getD k 0 = y := ⟨_, rfl⟩
      rw [hy0] at x1 x2
      have HY := Aside0.mk hy0
      have HP1 := Aside0.mk hp1
      have HP2 := Aside0.mk hp2
      have hne : (⟨g1, k, none⟩ : Addr) ≠ ⟨g2, k, none⟩ := by intro e; injection e with e; omega
      have x3 : ∀ u, (wr.setCell ⟨g1, k, none⟩ u).cell? ⟨g2, k, none⟩ = some (.int .u8 y0) := fun u => (World.cell?_setCell_other wr _ _ u hne).trans x2
      have f3 : ∀ u, (wr.setCell ⟨g1, k, none⟩ u).frozen? ⟨g2, k, none⟩ = false := fun u => (by simpa using f2)
      clear hy0 hown1 hown2 hp1 hp2 hne
      go_wp2
      refine ⟨⟨k + 1, by go_num, by omega, ⟨?_⟩⟩, by simp [intOf]; omega⟩
      have h3 := (HG.out.put1 HP1.out (by omega) (by omega) (by omega) k (Go.bits .xor .u8 y0 54)).put2 HP2.out (by omega) (by omega) (by omega) k (Go.bits .xor .u8 y0 92)
      have s1 := part_set (fun y => Go.bits .xor .u8 y 54) z k (by rw [HZL.out]; omega)
      have s2 := part_set (fun y => Go.bits .xor .u8 y 92) z k (by rw [HZL.out]; omega)
      rw [HY.out] at s1 s2
      rw [s1, s2] at h3
      exact h3
    · have hkk : k = 64 := by omega
      subst hkk
      rw [show ((64 : Nat) : Int) = 64 from rfl]
      have hpa1 : part (fun y => Go.bits .xor .u8 y 54) z 64 = xorAll 54 (key64 key) := by rw [HZ.out, ← HZL.out, part_all]; rfl
      have hpa2 : part (fun y => Go.bits .xor .u8 y 92) z 64 = xorAll 92 (key64 key) := by rw [HZ.out, ← HZL.out, part_all]; rfl
      rw [hpa1, hpa2] at HG
      rw [hpa1] at hp1
      rw [hpa2] at hp2
      obtain ⟨q1, hq1⟩ : ∃ q, xorAll 54 (key64 key) = q := ⟨_, rfl⟩
      obtain ⟨q2, hq2⟩ : ∃ q, xorAll 92 (key64 key) = q := ⟨_, rfl⟩
      rw [hq1, hq2] at HG
      rw [hq1] at hp1
      rw [hq2] at hp2
      have HQ := Aside0.mk (And.intro hq1 hq2)
      have HBQ := Aside0.mk (show B8 q1 ∧ B8 q2 from ⟨by rw [← hq1]; exact xorAll_B8 _ _, by rw [← hq2]; exact xorAll_B8 _ _⟩)
      clear hpa1 hpa2 hq1 hq2
      go_upto_region 14 with (first | ((with_reducible refine gate_builtin (b := .append) (xs := #[.tmp 44, .tmp 45]) rfl ?_); at_builtin; refine Kd.R_append_rows (Kd.int .u8) (w0 := w) w.heap.size rfl (.tmp 44) (.tmp 45) 22 5 (.int .u8 0) 1 rfl Try.underlying22 info5 rfl (by decide) (by omega) (.slice (some ⟨g1, 0, none⟩) 64 c1) q1 b _ _ _ (fun _ => True) (fun _ => False) rfl rfl (Kd.R_mono HG.out.r1 (fun _ _ => trivial)) (Kd.C_below HC.out HG.out.b) (fun _ _ h => h) (fun _ h => h.elim) (fun _ _ => trivial) HG.out.b HG.out.b.size (by rw [hp1]; omega) ?_; intro v5 w5 ho hb hg hat; obtain ⟨qb, hqb⟩ : ∃ y, q1 ++ b = y := ⟨_, rfl⟩; rw [hqb] at ho; have HQB := Aside0.mk hqb; have HR5 := Aside0.mk ho; have HM5 : Aside0 (AB w5 w.heap.size 25 (List.replicate 32 0) ∧ (Kd.int .u8).R 5 w5 w.heap.size (fun k => k = g2) (.slice (some ⟨g2, 0, none⟩) 64 c2) q2 ∧ Below w.heap.size w w5) := ⟨⟨blk_grown HG.out.h hg (by intro e; injection e with e; (try dsimp only at e); omega), Kd.R_grown HG.out.r2 hg (fun k hk e => by subst hk; injection e with e; (try dsimp only at e); omega), hb⟩⟩; clear ho hb hg hat HG hqb; obtain ⟨A5, c5, rfl⟩ := Kd.R_slice HR5.out) | (go_at_call 11; (with_reducible refine (refsum_any _ _ _ _ (Kd.R_reads' HR5.out).2.2 (Kd.R_reads' HR5.out).2.1 (by rw [← HQB.out, List.length_append, hp1]; omega) (by rw [← HQB.out]; exact HBQ.out.1.append HB8.out)).mono ?_); rintro e w6 ⟨rfl, hb6⟩; have HM6 : Aside0 (AB w6 w.heap.size 25 (List.replicate 32 0) ∧ (Kd.int .u8).R 5 w6 w.heap.size (fun k => k = g2) (.slice (some ⟨g2, 0, none⟩) 64 c2) q2 ∧ Below w.heap.size w w6) := ⟨⟨(hb6.block _ (blk_lt HM5.out.1)).trans HM5.out.1, Kd.R_below HM5.out.2.1 hb6, below_then HM5.out.2.2 HM5.out.2.2.size hb6⟩⟩; clear hb6 HM5 HR5) | (refine wpList_store_row rfl 25 (.tmp 9) (.tmp 47) rfl w6.heap.size _ rfl rfl 25 _ (heap_alloc_new w6 _) (by rw [List.size_toArray, nums_length, sha_len]; kernel_rfl) (show (32 : Nat) = _ from by rw [List.size_toArray, nums_length, sha_len]) (u8_one _) ?_; rw [World.setRow_alloc_new]))
      obtain ⟨p1, hp1e⟩ : ∃ p, sha qb = p := ⟨_, rfl⟩
      have hpl : p1.length = 32 := by rw [← hp1e, sha_len]
      have HPB := Aside0.mk (show B8 p1 from by rw [← hp1e]; exact sha_B8 _)
      rw [hp1e]
      have HP1 := Aside0.mk hp1e
      have HPL := Aside0.mk hpl
      have hbn : Below w6.heap.size w6 (w6.alloc (.cells (nums .u8 p1).toArray 25)) := below_alloc (Below.refl _ w6) _
      have HM7 : Aside0 (AB (w6.alloc (.cells (nums .u8 p1).toArray 25)) w.heap.size 25 (List.replicate 32 0) ∧ (Kd.int .u8).R 5 (w6.alloc (.cells (nums .u8 p1).toArray 25)) w.heap.size (fun k => k = g2) (.slice (some ⟨g2, 0, none⟩) 64 c2) q2 ∧ Below w.heap.size w (w6.alloc (.cells (nums .u8 p1).toArray 25))) := ⟨⟨(hbn.block _ (blk_lt HM6.out.1)).trans HM6.out.1, Kd.R_below HM6.out.2.1 hbn, below_then HM6.out.2.2 HM6.out.2.2.size hbn⟩⟩
      have hab : AB (w6.alloc (.cells (nums .u8 p1).toArray 25)) w6.heap.size 25 p1 := heap_alloc_new w6 _
      have hrd := hab.reads (by rw [HPL.out]; decide)
      rw [HPL.out] at hrd
      have HRD := Aside0.mk hrd
      clear hab hrd hp1e hpl hbn HM6
      go_wp2_with (first | ((with_reducible refine gate_builtin (b := .append) (xs := #[.tmp 48, .tmp 49]) rfl ?_); at_builtin; refine Kd.R_append_rows (Kd.int .u8) (w0 := w) w.heap.size rfl (.tmp 48) (.tmp 49) 22 5 (.int .u8 0) 1 rfl Try.underlying22 info5 rfl (by decide) (by omega) (.slice (some ⟨g2, 0, none⟩) 64 c2) q2 p1 (some ⟨w6.heap.size, 0, none⟩) 32 32 (fun _ => True) (fun _ => False) rfl rfl (Kd.R_mono HM7.out.2.1 (fun _ _ => trivial)) HRD.out (fun _ _ h => h) (fun _ h => h.elim) (fun _ _ => trivial) HM7.out.2.2 HM7.out.2.2.size (by rw [hp2]; decide) ?_; intro v8 w8 ho hb hg hat; obtain ⟨qc, hqc⟩ : ∃ y, q2 ++ p1 = y := ⟨_, rfl⟩; rw [hqc] at ho; have HQC := Aside0.mk hqc; have HR8 := Aside0.mk ho; have HM8 : Aside0 (AB w8 w.heap.size 25 (List.replicate 32 0) ∧ Below w.heap.size w w8) := ⟨⟨blk_grown HM7.out.1 hg (by intro e; injection e with e; (try dsimp only at e); omega), hb⟩⟩; clear ho hb hg hat HM7 hqc; obtain ⟨A8, c8, rfl⟩ := Kd.R_slice HR8.out) | (go_at_call 11; (with_reducible refine (refsum_any _ _ _ _ (Kd.R_reads' HR8.out).2.2 (Kd.R_reads' HR8.out).2.1 (by rw [← HQC.out, List.length_append, hp2, HPL.out]; decide) (by rw [← HQC.out]; exact HBQ.out.2.append HPB.out)).mono ?_); rintro e w9 ⟨rfl, hb9⟩; have HM9 : Aside0 (AB w9 w.heap.size 25 (List.replicate 32 0) ∧ Below w.heap.size w w9) := ⟨⟨(hb9.block _ (blk_lt HM8.out.1)).trans HM8.out.1, below_then HM8.out.2 HM8.out.2.size hb9⟩⟩; clear hb9 HM8 HR8) | (refine wpList_store_row rfl 25 (.tmp 4) (.tmp 51) rfl w.heap.size _ rfl rfl 25 _ HM9.out.1 (by rw [List.size_toArray, nums_length, sha_len]; kernel_rfl) (show (32 : Nat) = _ from by rw [List.size_toArray, nums_length, sha_len]) (u8_one _) ?_))
      exact bodyPost_ret (results_cell_row rfl _ _ w.heap.size 25 _ (0, 0) _ rfl (setRow_heap _ _ _ _ _ _ HM9.out.1) Try.underlying25 rfl (by rw [List.size_toArray, nums_length, sha_len]; kernel_rfl)) rfl ⟨by unfold mac; rw [HKO.out, HQ.out.1, HQ.out.2, HQB.out, HP1.out, HQC.out], below_setRow HM9.out.2 (Nat.le_refl _) _⟩
set_option maxHeartbeats 4000000 in
set_option maxRecDepth 100000 in
theorem refmac_big (A Ak : Option Addr) (c ck : Nat) (b key : List Int) (w : World) (hCk : (Kd.int .u8).C w Ak key.length key) (hkc : key.length ≤ ck) (hC : (Kd.int .u8).C w A b.length b)
    (hbig : 64 < key.length) (hkl : key.length ≤ 140737488340000) (hl : b.length ≤ 140737488340000) (hkb : B8 key) (hb : B8 b) :
    Calls Try.prog 15 #[.slice Ak key.length ck, .slice A b.length c] w fun e w' => e = .returned (.agg (nums .u8 (mac key b)).toArray) ∧ Below w.heap.size w w' := by
  have HC := Aside0.mk hC
  have HCK := Aside0.mk hCk
  have HB8 := Aside0.mk hb
  have HKB := Aside0.mk hkb
  have HKO := Aside0.mk (show keyOf key = sha key from by unfold keyOf; rw [if_pos hbig])
  clear hC hCk hb hkb
  have hbd : decide ((64 : Int) < (key.length : Int)) = true := decide_eq_true (by omega)
  go_enter Try.func15, Try.ntmps15
  go_upto_region 3 with (first | (go_at_call 11; (with_reducible refine (refsum_any _ _ _ _ (by repeat (first | exact HCK.out | (with_reducible refine Kd.C_alloc ?_ _))) hkc (by omega) HKB.out).mono ?_); rintro e w0 ⟨rfl, hb0⟩; have HB0 := Aside0.mk hb0; clear hb0) | (refine wpList_store_row rfl 25 (.tmp 5) (.tmp 14) rfl w0.heap.size (nums .u8 (sha key)).toArray rfl rfl 25 _ (heap_alloc_new w0 _) (by rw [List.size_toArray, nums_length, sha_len]; kernel_rfl) (show (32 : Nat) = _ from by rw [List.size_toArray, nums_length, sha_len]) (u8_one _) ?_; rw [World.setRow_alloc_new]))
  have hslen := sha_len key
  have hab : AB (w0.alloc (.cells (nums .u8 (sha key)).toArray 25)) w0.heap.size 25 (sha key) := heap_alloc_new w0 _
  obtain ⟨k2, hk2e⟩ : ∃ k, sha key = k := ⟨_, rfl⟩
  rw [hk2e] at hslen hab ⊢
  have HKO2 := Aside0.mk (HKO.out.trans hk2e)
  have hws : w.heap.size < w0.heap.size := by have := HB0.out.size; simp at this; omega
  have hrd := hab.reads (by rw [hslen]; decide)
  rw [hslen] at hrd
  have HN : Aside0 (N1 w (w0.alloc (.cells (nums .u8 k2).toArray 25)) w.heap.size (some ⟨w0.heap.size, 0, none⟩) k2) := by
    refine ⟨⟨blk_alloc ((HB0.out.block _ (by simp)).trans (heap_alloc_new w _)) _, by rw [hslen]; exact hrd, below_alloc (below_then (below_alloc (Below.refl _ w) _) (by simp) HB0.out) _⟩⟩
  have HAB := Aside0.mk hab
  have hgh : w0.heap.size < (w0.alloc (.cells (nums .u8 k2).toArray 25)).heap.size := by simp
  have hk2 : k2.length ≤ 64 := by omega
  have HSL := Aside0.mk hslen
  have HK64 := Aside0.mk (show key64 k2 = k2 ++ List.replicate (64 - 32) 0 from by unfold key64; rw [HSL.out])
  clear HB0 hab hrd hslen hk2e HKO
  have HKO := HKO2
  clear HKO2
  generalize (w0.alloc (.cells (nums .u8 k2).toArray 25)) = wk at *
  obtain ⟨gh, hghe⟩ : ∃ g, w0.heap.size = g := ⟨_, rfl⟩
  rw [hghe] at hws HN HAB hgh ⊢
  clear hghe
  go_upto_region 6 with (first | (refine Kd.R_makec (Kd.int .u8) (w0 := w) w.heap.size 5 rfl (N := 16) rfl 22 _ _ rfl 64 64 rfl rfl Try.underlying22 (.int .u8 0) 1 info5 rfl (by decide) (by decide) (0 : Int) (ok := fun k => k = wk.heap.size) (okp := fun _ => False) rfl (fun _ h => h.elim) (by rfl) (by decide) (by decide) (by decide) HN.out.b HN.out.b.size ?_; intro v1 w1 ho hb hg hat; have HO1 := Aside0.mk ho; have HN1 := Aside0.mk (HN.out.step (below_of_grown hg)); have HAB1 := Aside0.mk (((below_of_grown hg).block _ (blk_lt HAB.out)).trans HAB.out); clear ho hb hg hat HN) | (refine Kd.R_makec (Kd.int .u8) (w0 := w) w.heap.size 5 rfl (N := 17) rfl 22 _ _ rfl 64 64 rfl rfl Try.underlying22 (.int .u8 0) 1 info5 rfl (by decide) (by decide) (0 : Int) (ok := fun k => k = w1.heap.size) (okp := fun _ => False) rfl (fun _ h => h.elim) (by rfl) (by decide) (by decide) (by decide) HN1.out.b HN1.out.b.size ?_; intro v2 w2 ho hb hg hat; have HO2 := Aside0.mk ho; have HN2 := Aside0.mk (HN1.out.step (below_of_grown hg)); have HAB2 := Aside0.mk (((below_of_grown hg).block _ (blk_lt HAB1.out)).trans HAB1.out); have HO1b := Aside0.mk (Kd.R_below HO1.out (below_of_grown hg)); have HG1 := Aside0.mk (fun k hk => own_lt (Kd.own_of_R HO1.out) k hk); clear HO1; clear ho hb hg hat HN1))
  have hf1 := (Kd.own_of_R HO1b.out).form (by rw [List.length_replicate]; decide)
  have hf2 := (Kd.own_of_R HO2.out).form (by rw [List.length_replicate]; decide)
  have ho1 := HO1b.out
  have ho2 := HO2.out
  rw [List.length_replicate, show (64 : Int).toNat = 64 from rfl] at hf1 hf2
  rw [show (64 : Int).toNat = 64 from rfl] at ho1 ho2
  obtain ⟨g1, c1, rfl, hgb1, hgl1⟩ := hf1
  obtain ⟨g2, c2, rfl, hgb2, hgl2⟩ := hf2
  have e1 : g1 = wk.heap.size := ho1.1 g1 rfl
  have e2 : g2 = w1.heap.size := ho2.1 g2 rfl
  have hw12 : g1 < w1.heap.size := HG1.out g1 rfl
  rw [← e1] at ho1
  rw [← e2] at ho2 hw12
  have HM : Aside0 (N2 w w2 w.heap.size g1 g2 c1 c2 (List.replicate 64 0) (List.replicate 64 0)) := ⟨⟨HN2.out.h, ho1, ho2, HN2.out.b⟩⟩
  have hghg : gh < g1 := by omega
  have HKC : Aside0 (∀ W, Below g1 w2 W → (Kd.int .u8).C W (some ⟨gh, 0, none⟩) 32 k2) := ⟨fun W hW => by have := AB.reads ((hW.block gh hghg).trans HAB2.out) (by rw [HSL.out]; decide); rwa [HSL.out] at this⟩
  have HCW := Aside0.mk (HKC.out w2 (Below.refl _ _))
  have hq : w.heap.size < g1 ∧ g1 < g2 := ⟨by omega, hw12⟩
  have HGL := Aside0.mk hgl1
  clear HO1b HO2 HN2 ho1 ho2 e1 e2 hgb1 hgl1 hgb2 hgl2 hw12 HG1
  go_wp2_with (first | (refine Kd.R_copy (0 : Int) (w0 := w) w.heap.size rfl (.tmp 18) (.tmp 19) 22 22 5 rfl Try.underlying22 (by kernel_rfl) (.slice (some ⟨g1, 0, none⟩) 64 c1) (List.replicate 64 0) k2 (some ⟨gh, 0, none⟩) 32 32 (fun k => k = g1) rfl rfl HM.out.r1 HCW.out HM.out.b HM.out.b.size ?_; intro w3 ho hb hg; rw [List.length_replicate, show min 32 64 = 32 from rfl, List.take_of_length_le (show k2.length ≤ 32 from by rw [HSL.out]; decide), List.drop_replicate, ← HK64.out] at ho; have HM3 : Aside0 (N2 w w3 w.heap.size g1 g2 c1 c2 (key64 k2) (List.replicate 64 0)) := ⟨⟨blk_grown HM.out.h hg (by intro e; injection e with e; (try dsimp only at e); omega), ho, Kd.R_grown HM.out.r2 hg (fun k hk e => by subst hk; injection e with e; (try dsimp only at e); omega), hb⟩⟩; have HCW3 := Aside0.mk (HKC.out w3 (below_row hg (by have := HGL.out; omega))); clear ho hb hg HM HCW) | (refine Kd.R_copy (0 : Int) (w0 := w) w.heap.size rfl (.tmp 21) (.tmp 22) 22 22 5 rfl Try.underlying22 (by kernel_rfl) (.slice (some ⟨g2, 0, none⟩) 64 c2) (List.replicate 64 0) k2 (some ⟨gh, 0, none⟩) 32 32 (fun k => k = g2) rfl rfl HM3.out.r2 HCW3.out HM3.out.b HM3.out.b.size ?_; intro w4 ho hb hg; rw [List.length_replicate, show min 32 64 = 32 from rfl, List.take_of_length_le (show k2.length ≤ 32 from by rw [HSL.out]; decide), List.drop_replicate, ← HK64.out] at ho; have HM4 : Aside0 (N2 w w4 w.heap.size g1 g2 c1 c2 (key64 k2) (key64 k2)) := ⟨⟨blk_grown HM3.out.h hg (by intro e; injection e with e; (try dsimp only at e); omega), Kd.R_grown HM3.out.r1 hg (fun k hk e => by subst hk; injection e with e; (try dsimp only at e); omega), ho, hb⟩⟩; clear ho hb hg HM3 HCW3))
  have hzl := key64_len k2 hk2
  obtain ⟨z, hz⟩ : ∃ z, key64 k2 = z := ⟨_, rfl⟩
  rw [hz] at HM4 hzl
  have HZ := Aside0.mk hz
  have HZL := Aside0.mk hzl
  clear hz hzl
  go_loopw [8] (fun i wr => ∃ (k : Nat), i = .int .i64 (k : Int) ∧ k ≤ 64 ∧ Aside0 (N2 w wr w.heap.size g1 g2 c1 c2 (part (fun y => Go.bits .xor .u8 y 54) z k) (part (fun y => Go.bits .xor .u8 y 92) z k))) (fun i _ => 64 - (intOf i).toNat)
  case atStart => exact ⟨0, rfl, by omega, by rw [show part (fun y => Go.bits .xor .u8 y 54) z 0 = z from rfl, show part (fun y => Go.bits .xor .u8 y 92) z 0 = z from rfl]; exact HM4⟩
  case round =>
    clear HM4
    obtain ⟨k, rfl, hk, HG⟩ := hrel
    have hp1 : (part (fun y => Go.bits .xor .u8 y 54) z k).length = 64 := by rw [part_len, HZL.out]
    have hp2 : (part (fun y => Go.bits .xor .u8 y 92) z k).length = 64 := by rw [part_len, HZL.out]
    by_cases hlt : k < 64
    · have hown1 := Kd.own_of_R HG.out.r1
      have hown2 := Kd.own_of_R HG.out.r2
      rw [hp1] at hown1
      rw [hp2] at hown2
      obtain ⟨x1, f1⟩ := own_at_of (d := (0 : Int)) hown1 (k : Int) (by omega) (by omega)
      obtain ⟨x2, f2⟩ := own_at_of (d := (0 : Int)) hown2 (k : Int) (by omega) (by omega)
      rw [Int.toNat_natCast, rdOf, Int.toNat_natCast, part_get _ _ _ (by rw [HZL.out]; omega)] at x1 x2
      rw [Int.toNat_natCast] at f1 f2
      obtain ⟨y0, hy0⟩ : ∃ y, z.getD k 0 = y := ⟨_, rfl⟩
      rw [hy0] at x1 x2
      have HY := Aside0.mk hy0
      have HP1 := Aside0.mk hp1
      have HP2 := Aside0.mk hp2
      have hne : (⟨g1, k, none⟩ : Addr) ≠ ⟨g2, k, none⟩ := by intro e; injection e with e; omega
      have x3 : ∀ u, (wr.setCell ⟨g1, k, none⟩ u).cell? ⟨g2, k, none⟩ = some (.int .u8 y0) := fun u => (World.cell?_setCell_other wr _ _ u hne).trans x2
      have f3 : ∀ u, (wr.setCell ⟨g1, k, none⟩ u).frozen? ⟨g2, k, none⟩ = false := fun u => (by simpa using f2)
      clear hy0 hown1 hown2 hp1 hp2 hne
      go_wp2
      refine ⟨⟨k + 1, by go_num, by omega, ⟨?_⟩⟩, by simp [intOf]; omega⟩
      have h3 := (HG.out.put1 HP1.out (by omega) (by omega) (by omega) k (Go.bits .xor .u8 y0 54)).put2 HP2.out (by omega) (by omega) (by omega) k (Go.bits .xor .u8 y0 92)
      have s1 := part_set (fun y => Go.bits .xor .u8 y 54) z k (by rw [HZL.out]; omega)
      have s2 := part_set (fun y => Go.bits .xor .u8 y 92) z k (by rw [HZL.out]; omega)
      rw [HY.out] at s1 s2
      rw [s1, s2] at h3
      exact h3
    · have hkk : k = 64 := by omega
      subst hkk
      rw [show ((64 : Nat) : Int) = 64 from rfl]
      have hpa1 : part (fun y => Go.bits .xor .u8 y 54) z 64 = xorAll 54 (key64 k2) := by rw [HZ.out, ← HZL.out, part_all]; rfl
      have hpa2 : part (fun y => Go.bits .xor .u8 y 92) z 64 = xorAll 92 (key64 k2) := by rw [HZ.out, ← HZL.out, part_all]; rfl
      rw [hpa1, hpa2] at HG
      rw [hpa1] at hp1
      rw [hpa2] at hp2
      obtain ⟨q1, hq1⟩ : ∃ q, xorAll 54 (key64 k2) = q := ⟨_, rfl⟩
      obtain ⟨q2, hq2⟩ : ∃ q, xorAll 92 (key64 k2) = q := ⟨_, rfl⟩
      rw [hq1, hq2] at HG
      rw [hq1] at hp1
      rw [hq2] at hp2
      have HQ := Aside0.mk (And.intro hq1 hq2)
      have HBQ := Aside0.mk (show B8 q1 ∧ B8 q2 from ⟨by rw [← hq1]; exact xorAll_B8 _ _, by rw [← hq2]; exact xorAll_B8 _ _⟩)
      clear hpa1 hpa2 hq1 hq2
      go_upto_region 14 with (first | ((with_reducible refine gate_builtin (b := .append) (xs := #[.tmp 44, .tmp 45]) rfl ?_); at_builtin; refine Kd.R_append_rows (Kd.int .u8) (w0 := w) w.heap.size rfl (.tmp 44) (.tmp 45) 22 5 (.int .u8 0) 1 rfl Try.underlying22 info5 rfl (by decide) (by omega) (.slice (some ⟨g1, 0, none⟩) 64 c1) q1 b _ _ _ (fun _ => True) (fun _ => False) rfl rfl (Kd.R_mono HG.out.r1 (fun _ _ => trivial)) (Kd.C_below HC.out HG.out.b) (fun _ _ h => h) (fun _ h => h.elim) (fun _ _ => trivial) HG.out.b HG.out.b.size (by rw [hp1]; omega) ?_; intro v5 w5 ho hb hg hat; obtain ⟨qb, hqb⟩ : ∃ y, q1 ++ b = y := ⟨_, rfl⟩; rw [hqb] at ho; have HQB := Aside0.mk hqb; have HR5 := Aside0.mk ho; have HM5 : Aside0 (AB w5 w.heap.size 25 (List.replicate 32 0) ∧ (Kd.int .u8).R 5 w5 w.heap.size (fun k => k = g2) (.slice (some ⟨g2, 0, none⟩) 64 c2) q2 ∧ Below w.heap.size w w5) := ⟨⟨blk_grown HG.out.h hg (by intro e; injection e with e; (try dsimp only at e); omega), Kd.R_grown HG.out.r2 hg (fun k hk e => by subst hk; injection e with e; (try dsimp only at e); omega), hb⟩⟩; clear ho hb hg hat HG hqb; obtain ⟨A5, c5, rfl⟩ := Kd.R_slice HR5.out) | (go_at_call 11; (with_reducible refine (refsum_any _ _ _ _ (Kd.R_reads' HR5.out).2.2 (Kd.R_reads' HR5.out).2.1 (by rw [← HQB.out, List.length_append, hp1]; omega) (by rw [← HQB.out]; exact HBQ.out.1.append HB8.out)).mono ?_); rintro e w6 ⟨rfl, hb6⟩; have HM6 : Aside0 (AB w6 w.heap.size 25 (List.replicate 32 0) ∧ (Kd.int .u8).R 5 w6 w.heap.size (fun k => k = g2) (.slice (some ⟨g2, 0, none⟩) 64 c2) q2 ∧ Below w.heap.size w w6) := ⟨⟨(hb6.block _ (blk_lt HM5.out.1)).trans HM5.out.1, Kd.R_below HM5.out.2.1 hb6, below_then HM5.out.2.2 HM5.out.2.2.size hb6⟩⟩; clear hb6 HM5 HR5) | (refine wpList_store_row rfl 25 (.tmp 9) (.tmp 47) rfl w6.heap.size _ rfl rfl 25 _ (heap_alloc_new w6 _) (by rw [List.size_toArray, nums_length, sha_len]; kernel_rfl) (show (32 : Nat) = _ from by rw [List.size_toArray, nums_length, sha_len]) (u8_one _) ?_; rw [World.setRow_alloc_new]))
      obtain ⟨p1, hp1e⟩ : ∃ p, sha qb = p := ⟨_, rfl⟩
      have hpl : p1.length = 32 := by rw [← hp1e, sha_len]
      have HPB := Aside0.mk (show B8 p1 from by rw [← hp1e]; exact sha_B8 _)
      rw [hp1e]
      have HP1 := Aside0.mk hp1e
      have HPL := Aside0.mk hpl
      have hbn : Below w6.heap.size w6 (w6.alloc (.cells (nums .u8 p1).toArray 25)) := below_alloc (Below.refl _ w6) _
      have HM7 : Aside0 (AB (w6.alloc (.cells (nums .u8 p1).toArray 25)) w.heap.size 25 (List.replicate 32 0) ∧ (Kd.int .u8).R 5 (w6.alloc (.cells (nums .u8 p1).toArray 25)) w.heap.size (fun k => k = g2) (.slice (some ⟨g2, 0, none⟩) 64 c2) q2 ∧ Below w.heap.size w (w6.alloc (.cells (nums .u8 p1).toArray 25))) := ⟨⟨(hbn.block _ (blk_lt HM6.out.1)).trans HM6.out.1, Kd.R_below HM6.out.2.1 hbn, below_then HM6.out.2.2 HM6.out.2.2.size hbn⟩⟩
      have hab : AB (w6.alloc (.cells (nums .u8 p1).toArray 25)) w6.heap.size 25 p1 := heap_alloc_new w6 _
      have hrd := hab.reads (by rw [HPL.out]; decide)
      rw [HPL.out] at hrd
      have HRD := Aside0.mk hrd
      clear hab hrd hp1e hpl hbn HM6
      go_wp2_with (first | ((with_reducible refine gate_builtin (b := .append) (xs := #[.tmp 48, .tmp 49]) rfl ?_); at_builtin; refine Kd.R_append_rows (Kd.int .u8) (w0 := w) w.heap.size rfl (.tmp 48) (.tmp 49) 22 5 (.int .u8 0) 1 rfl Try.underlying22 info5 rfl (by decide) (by omega) (.slice (some ⟨g2, 0, none⟩) 64 c2) q2 p1 (some ⟨w6.heap.size, 0, none⟩) 32 32 (fun _ => True) (fun _ => False) rfl rfl (Kd.R_mono HM7.out.2.1 (fun _ _ => trivial)) HRD.out (fun _ _ h => h) (fun _ h => h.elim) (fun _ _ => trivial) HM7.out.2.2 HM7.out.2.2.size (by rw [hp2]; decide) ?_; intro v8 w8 ho hb hg hat; obtain ⟨qc, hqc⟩ : ∃ y, q2 ++ p1 = y := ⟨_, rfl⟩; rw [hqc] at ho; have HQC := Aside0.mk hqc; have HR8 := Aside0.mk ho; have HM8 : Aside0 (AB w8 w.heap.size 25 (List.replicate 32 0) ∧ Below w.heap.size w w8) := ⟨⟨blk_grown HM7.out.1 hg (by intro e; injection e with e; (try dsimp only at e); omega), hb⟩⟩; clear ho hb hg hat HM7 hqc; obtain ⟨A8, c8, rfl⟩ := Kd.R_slice HR8.out) | (go_at_call 11; (with_reducible refine (refsum_any _ _ _ _ (Kd.R_reads' HR8.out).2.2 (Kd.R_reads' HR8.out).2.1 (by rw [← HQC.out, List.length_append, hp2, HPL.out]; decide) (by rw [← HQC.out]; exact HBQ.out.2.append HPB.out)).mono ?_); rintro e w9 ⟨rfl, hb9⟩; have HM9 : Aside0 (AB w9 w.heap.size 25 (List.replicate 32 0) ∧ Below w.heap.size w w9) := ⟨⟨(hb9.block _ (blk_lt HM8.out.1)).trans HM8.out.1, below_then HM8.out.2 HM8.out.2.size hb9⟩⟩; clear hb9 HM8 HR8) | (refine wpList_store_row rfl 25 (.tmp 4) (.tmp 51) rfl w.heap.size _ rfl rfl 25 _ HM9.out.1 (by rw [List.size_toArray, nums_length, sha_len]; kernel_rfl) (show (32 : Nat) = _ from by rw [List.size_toArray, nums_length, sha_len]) (u8_one _) ?_))
      exact bodyPost_ret (results_cell_row rfl _ _ w.heap.size 25 _ (0, 0) _ rfl (setRow_heap _ _ _ _ _ _ HM9.out.1) Try.underlying25 rfl (by rw [List.size_toArray, nums_length, sha_len]; kernel_rfl)) rfl ⟨by unfold mac; rw [HKO.out, HQ.out.1, HQ.out.2, HQB.out, HP1.out, HQC.out], below_setRow HM9.out.2 (Nat.le_refl _) _⟩
theorem refmac_any (A Ak : Option Addr) (c ck : Nat) (b key : List Int) (w : World) (hCk : (Kd.int .u8).C w Ak key.length key) (hkc : key.length ≤ ck) (hC : (Kd.int .u8).C w A b.length b)
    (hkl : key.length ≤ 140737488340000) (hl : b.length ≤ 140737488340000) (hkb : B8 key) (hb : B8 b) :
    Calls Try.prog 15 #[.slice Ak key.length ck, .slice A b.length c] w fun e w' => e = .returned (.agg (nums .u8 (mac key b)).toArray) ∧ Below w.heap.size w w' := by
  by_cases h : 64 < key.length
  · exact refmac_big A Ak c ck b key w hCk hkc hC h hkl hl hkb hb
  · exact refmac_small A Ak c ck b key w hCk hkc hC (by omega) hkl hl hkb hb
end Go.Proofs.Ytlkddmkfllnnhaa.Dg
