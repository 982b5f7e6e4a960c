/- chapter 1's law: digits there and back. Own work. -/
import Derived.Test.YtlkddmkfllnnhaaLwC
import Derived.Test.YtlkddmkfllnnhaaDgO
import Derived.Test.YtlkddmkfllnnhaaDgQ
import Derived.Test.YtlkddmkfllnnhaaDgX
import Derived.Test.YtlkddmkfllnnhaaDgY
namespace Go.Proofs.Ytlkddmkfllnnhaa.Dg
set_option linter.unusedVariables false
set_option linter.unusedSimpArgs false
open Go.RowKit Go.Proofs.Ytlkddmkfllnnhaa.Md Go.Proofs.Ytlkddmkfllnnhaa.PL Go.Proofs.YtlkddmkfllnnhaaW.PrintWords Go.Proofs.YtlkddmkfllnnhaaW.PrintLast Go.Proofs.YtlkddmkfllnnhaaW.PrintMore
theorem hd_r {n : Int} (h0 : 0 ≤ n) (h1 : n < 16) : isHex (hd n) = true ∧ nib (hd n) = n ∧ 0 ≤ hd n ∧ hd n < 256 := by
  unfold hd isHex nib
  split
  · refine ⟨by simp; omega, by rw [if_pos (by omega)]; omega, by omega, by omega⟩
  · refine ⟨by simp; omega, by rw [if_neg (by omega)]; omega, by omega, by omega⟩
theorem hexs_at (h : List Int) (k : Nat) (hk : k < h.length) : (hexs h).getD (2 * k) 0 = hd (h.getD k 0 / 16) ∧ (hexs h).getD (2 * k + 1) 0 = hd (h.getD k 0 % 16) := by
  induction h generalizing k with
  | nil => simp at hk
  | cons b l ih =>
    cases k with
    | zero => exact ⟨rfl, rfl⟩
    | succ k =>
      have := ih k (by simp at hk; omega)
      rw [show 2 * (k + 1) = (2 * k) + 1 + 1 from by omega]
      simpa [hexs, hex2] using this
theorem hexs_mem {h : List Int} (hb : B8 h) {x : Int} (hx : x ∈ hexs h) : isHex x = true ∧ 0 ≤ x ∧ x < 256 := by
  induction h with
  | nil => simp [hexs] at hx
  | cons b l ih =>
    have hb0 := hb b List.mem_cons_self
    simp only [hexs, hex2, List.mem_append, List.mem_cons, List.not_mem_nil, or_false] at hx
    rcases hx with (rfl | rfl) | hx
    · have := hd_r (n := b / 16) (by omega) (by omega); exact ⟨this.1, this.2.2⟩
    · have := hd_r (n := b % 16) (by omega) (by omega); exact ⟨this.1, this.2.2⟩
    · exact ih (fun y hy => hb y (List.mem_cons_of_mem _ hy)) hx
theorem hx_hexs (h : List Int) (hl : h.length = 32) (hb : B8 h) (k : Nat) (hk : k ≤ 32) : hx (hexs h) (2 * k) = h.take k ++ List.replicate (32 - k) 0 := by
  induction k with
  | zero => simp [hx]
  | succ k ih =>
    have ih := ih (by omega)
    obtain ⟨e0, e1⟩ := hexs_at h k (by omega)
    have hbk : 0 ≤ h.getD k 0 ∧ h.getD k 0 < 256 := by
      rw [List.getD_eq_getElem?_getD, List.getElem?_eq_getElem (show k < h.length by omega)]
      exact hb _ (List.getElem_mem _)
    rw [show 2 * (k + 1) = (2 * k) + 1 + 1 from by omega, hx, hx, show (2 * k + 1) / 2 = k from by omega, show (2 * k) / 2 = k from by omega, ih, e0, e1, (hd_r (n := h.getD k 0 / 16) (by omega) (by omega)).2.1, (hd_r (n := h.getD k 0 % 16) (by omega) (by omega)).2.1]
    generalize hbe : h.getD k 0 = b at hbk
    have hlen : (h.take k).length = k := by rw [List.length_take]; omega
    have hrep : List.replicate (32 - k) (0 : Int) = 0 :: List.replicate (32 - (k + 1)) 0 := by rw [show 32 - k = (32 - (k + 1)) + 1 from by omega, List.replicate_succ]
    rw [hrep, take_snoc h k b (by omega) hbe]
    generalize List.replicate (32 - (k + 1)) (0 : Int) = R
    have g0 : (h.take k ++ 0 :: R).getD k 0 = 0 := by rw [List.getD_eq_getElem?_getD, List.getElem?_append_right (by omega), hlen, Nat.sub_self]; rfl
    rw [g0, List.set_append_right _ _ (by omega), hlen, Nat.sub_self, List.set_cons_zero]
    have g1 : ∀ z : Int, (h.take k ++ z :: R).getD k 0 = z := fun z => by rw [List.getD_eq_getElem?_getD, List.getElem?_append_right (by omega), hlen, Nat.sub_self]; rfl
    rw [g1, List.set_append_right _ _ (by omega), hlen, Nat.sub_self, List.set_cons_zero, show ((0 * 16 + b / 16) % 256 * 16 + b % 16) % 256 = b from by omega]
    simp
theorem hex_back (h : List Int) (hl : h.length = 32) (hb : B8 h) : fhL (bytesOf (strOfNums (hexs h))) = h ∧ fhE (bytesOf (strOfNums (hexs h))) = 0 := by
  have he : bytesOf (strOfNums (hexs h)) = hexs h := by
    unfold bytesOf
    rw [strOfNums_data, List.map_map]
    conv => rhs; rw [← List.map_id (hexs h)]
    refine List.map_congr_left fun x hx => ?_
    obtain ⟨_, h0, h1⟩ := hexs_mem hb hx
    obtain ⟨n, rfl⟩ := Int.eq_ofNat_of_zero_le h0
    simp [UInt8.toNat_ofNat]
    omega
  have hok : fhOk (hexs h) = true := by
    unfold fhOk
    simp only [Bool.and_eq_true, List.all_eq_true, decide_eq_true_eq]
    exact ⟨by rw [hexs_len, hl], fun x hx => (hexs_mem hb hx).1⟩
  rw [he]
  unfold fhL fhE
  rw [hok, if_pos rfl, if_pos rfl, show (64 : Nat) = 2 * 32 from rfl, hx_hexs h hl hb 32 (Nat.le_refl _), show h.take 32 = h from by rw [← hl, List.take_length]]
  exact ⟨by simp, rfl⟩

/-- what stands behind the three calls -/
structure Q4 (w wr : World) (g0 g5 g7 g9 : Nat) (h F : List Int) : Prop where
  a0 : AB wr g0 25 h
  a5 : AB wr g5 25 h
  a7 : AB wr g7 25 F
  a9 : AB wr g9 25 F
  b : Below w.heap.size w wr
theorem Q4.step {w wr w1 : World} {g0 g5 g7 g9 : Nat} {h F : List Int} (H : Q4 w wr g0 g5 g7 g9 h F) (hb : Below wr.heap.size wr w1) : Q4 w w1 g0 g5 g7 g9 h F :=
  ⟨(hb.block _ (blk_lt H.a0)).trans H.a0, (hb.block _ (blk_lt H.a5)).trans H.a5, (hb.block _ (blk_lt H.a7)).trans H.a7, (hb.block _ (blk_lt H.a9)).trans H.a9, below_then H.b H.b.size hb⟩
def Q4.S (g0 g5 g7 g9 : Nat) (h F : List Int) (W : World) : Prop := W.rangeAt g0 0 (nums .u8 h) ∧ W.rangeAt g5 0 (nums .u8 h) ∧ W.rangeAt g7 0 (nums .u8 F) ∧ W.rangeAt g9 0 (nums .u8 F)
theorem Q4.held {w wr : World} {g0 g5 g7 g9 : Nat} {h F : List Int} (H : Q4 w wr g0 g5 g7 g9 h F) : Q4.S g0 g5 g7 g9 h F wr := ⟨H.a0.range, H.a5.range, H.a7.range, H.a9.range⟩
set_option maxHeartbeats 4000000 in
set_option maxRecDepth 100000 in
theorem lawhexes_any (h : List Int) (hl : h.length = 32) (hb : B8 h) (s : ByteArray) (hs : s.size ≤ 140737488351232) (w : World) : Calls Try.prog 6 #[.agg (nums .u8 h).toArray, .string s] w fun e w' => e = .returned (.bool true) ∧ Below w.heap.size w w' := by
  by_cases hsz : (3000 : Int) < (s.size : Int)
  · go_enter Try.func6, Try.ntmps6
    go_wp2
    go_ret
    exact ⟨rfl, below_alloc (Below.refl _ w) _⟩
  · have h0 : AB (w.alloc (.cells (nums .u8 h).toArray 25)) w.heap.size 25 h := heap_alloc_new w _
    have hbb : Below w.heap.size w (w.alloc (.cells (nums .u8 h).toArray 25)) := (below_alloc (Below.refl _ w) _)
    have hi25 : (Try.prog.info? 25).map (·.size) = some (nums .u8 h).length := by rw [nums_length, hl]; kernel_rfl
    have heq := fun W => eql_arr 25 32 Try.underlying25 h hl W
    have hfl := fhL_len (bytesOf s)
    have heqF := fun W => eql_arr 25 32 Try.underlying25 (fhL (bytesOf s)) hfl W
    have HX := Aside0.mk (fun W => hex_any h hl hb W)
    have HXr := Aside0.mk (fun W => refhex_any h hl hb W)
    have hfx := fun W => fromhex_any (strOfNums (hexs h)) (by rw [strOfNums_size, hexs_len, hl]; decide) W
    rw [(hex_back h hl hb).1, (hex_back h hl hb).2] at hfx
    have HFX := Aside0.mk hfx
    have HFS := Aside0.mk (fun W => fromhex_any s (by omega) W)
    have HFR := Aside0.mk (fun W => reffromhex_any s (by omega) W)
    obtain ⟨F, hF⟩ : ∃ F, fhL (bytesOf s) = F := ⟨_, rfl⟩
    obtain ⟨E, hE⟩ : ∃ E, fhE (bytesOf s) = E := ⟨_, rfl⟩
    obtain ⟨T, hT⟩ : ∃ T, strOfNums (hexs h) = T := ⟨_, rfl⟩
    rw [hF] at heqF HFS HFR hfl
    rw [hE] at HFS HFR
    rw [hT] at HX HXr HFX
    have hiF : (Try.prog.info? 25).map (·.size) = some (nums .u8 F).length := by rw [nums_length, hfl]; kernel_rfl
    have HL := Aside0.mk hl
    have HLF := Aside0.mk hfl
    have H0 := Aside0.mk (And.intro h0 hbb)
    have HI := Aside0.mk hi25
    have HIF := Aside0.mk hiF
    clear hl hb hs h0 hbb hF hE hT hi25 hiF hfx hfl
    go_enter Try.func6, Try.ntmps6
    go_upto_region 4 with (first | (refine wpList_load_row rfl 25 (.tmp 2) rfl w.heap.size rfl 25 _ (0, 0) _ H0.out.1 Try.underlying25 rfl (by rw [List.size_toArray, nums_length, HL.out]; kernel_rfl) ?_) | (go_at_call 19; (with_reducible refine (HX.out _).mono ?_); rintro e w1 ⟨rfl, hb1⟩; have H1 := Aside0.mk (And.intro ((hb1.block _ (blk_lt H0.out.1)).trans H0.out.1) (below_then H0.out.2 H0.out.2.size hb1)); clear hb1 H0) | (go_at_call 18; (with_reducible refine (HFX.out _).mono ?_); rintro e w2 ⟨rfl, hb2⟩; have H2 := Aside0.mk (And.intro ((hb2.block _ (blk_lt H1.out.1)).trans H1.out.1) (below_then H1.out.2 H1.out.2.size hb2)); clear hb2 H1) | (refine wpList_store_row rfl 25 (.tmp 5) (.tmp 18) rfl w2.heap.size _ rfl rfl 25 _ (heap_alloc_new w2 _) (by rw [List.size_toArray, nums_length, HL.out]; kernel_rfl) (show (32 : Nat) = _ from by rw [List.size_toArray, nums_length, HL.out]) (u8_one _) ?_; rw [World.setRow_alloc_new]))
    obtain ⟨g5, hg5⟩ : ∃ g, w2.heap.size = g := ⟨_, rfl⟩
    have HA5 : Aside0 (AB (w2.alloc (.cells (nums .u8 h).toArray 25)) w.heap.size 25 h ∧ AB (w2.alloc (.cells (nums .u8 h).toArray 25)) g5 25 h ∧ Below w.heap.size w (w2.alloc (.cells (nums .u8 h).toArray 25))) := ⟨blk_alloc H2.out.1 _, hg5 ▸ heap_alloc_new w2 _, below_alloc H2.out.2 _⟩
    rw [hg5]
    clear H2 hg5
    generalize (w2.alloc (.cells (nums .u8 h).toArray 25)) = w3 at *
    go_upto_region 5 with (first | (go_at_call 18; (with_reducible refine (HFS.out _).mono ?_); rintro e w4 ⟨rfl, hb4⟩; have H4 : Aside0 (AB w4 w.heap.size 25 h ∧ AB w4 g5 25 h ∧ Below w.heap.size w w4) := ⟨(hb4.block _ (blk_lt HA5.out.1)).trans HA5.out.1, (hb4.block _ (blk_lt HA5.out.2.1)).trans HA5.out.2.1, below_then HA5.out.2.2 HA5.out.2.2.size hb4⟩; clear hb4 HA5) | (refine wpList_store_row rfl 25 (.tmp 7) (.tmp 23) rfl w4.heap.size _ rfl rfl 25 _ (heap_alloc_new w4 _) (by rw [List.size_toArray, nums_length, HLF.out]; kernel_rfl) (show (32 : Nat) = _ from by rw [List.size_toArray, nums_length, HLF.out]) (u8_one _) ?_; rw [World.setRow_alloc_new]))
    obtain ⟨g7, hg7⟩ : ∃ g, w4.heap.size = g := ⟨_, rfl⟩
    have HA7 : Aside0 (AB (w4.alloc (.cells (nums .u8 F).toArray 25)) w.heap.size 25 h ∧ AB (w4.alloc (.cells (nums .u8 F).toArray 25)) g5 25 h ∧ AB (w4.alloc (.cells (nums .u8 F).toArray 25)) g7 25 F ∧ Below w.heap.size w (w4.alloc (.cells (nums .u8 F).toArray 25))) := ⟨blk_alloc H4.out.1 _, blk_alloc H4.out.2.1 _, hg7 ▸ heap_alloc_new w4 _, below_alloc H4.out.2.2 _⟩
    rw [hg7]
    clear H4 hg7
    generalize (w4.alloc (.cells (nums .u8 F).toArray 25)) = w5 at *
    go_upto_region 6 with (first | (go_at_call 20; (with_reducible refine (HFR.out _).mono ?_); rintro e w6 ⟨rfl, hb6⟩; have H6 : Aside0 (AB w6 w.heap.size 25 h ∧ AB w6 g5 25 h ∧ AB w6 g7 25 F ∧ Below w.heap.size w w6) := ⟨(hb6.block _ (blk_lt HA7.out.1)).trans HA7.out.1, (hb6.block _ (blk_lt HA7.out.2.1)).trans HA7.out.2.1, (hb6.block _ (blk_lt HA7.out.2.2.1)).trans HA7.out.2.2.1, below_then HA7.out.2.2.2 HA7.out.2.2.2.size hb6⟩; clear hb6 HA7) | (refine wpList_store_row rfl 25 (.tmp 9) (.tmp 28) rfl w6.heap.size _ rfl rfl 25 _ (heap_alloc_new w6 _) (by rw [List.size_toArray, nums_length, HLF.out]; kernel_rfl) (show (32 : Nat) = _ from by rw [List.size_toArray, nums_length, HLF.out]) (u8_one _) ?_; rw [World.setRow_alloc_new]))
    obtain ⟨g9, hg9⟩ : ∃ g, w6.heap.size = g := ⟨_, rfl⟩
    have HQ : Aside0 (Q4 w (w6.alloc (.cells (nums .u8 F).toArray 25)) w.heap.size g5 g7 g9 h F) := ⟨⟨blk_alloc H6.out.1 _, blk_alloc H6.out.2.1 _, blk_alloc H6.out.2.2.1 _, hg9 ▸ heap_alloc_new w6 _, below_alloc H6.out.2.2.2 _⟩⟩
    rw [hg9]
    clear H6 hg9
    generalize (w6.alloc (.cells (nums .u8 F).toArray 25)) = w7 at *
    have HQ1 := Aside0.mk (HQ.out.step (below_drew (Below.refl _ w7)))
    refine wp_region_held_drew (S := Q4.S w.heap.size g5 g7 g9 h F) (by kernel_rfl) HQ1.out.held (fun hHeld => ?_)
    refine wpAnyH_take (i := 0) (oi := _) (v := _) rfl (by kernel_rfl) (by kernel_rfl) (by kernel_rfl) (fun _ _ _ h => h) (yieldsIf_load_mid (by rfl) 25 _ rfl w.heap.size 0 rfl (nums .u8 h) _ (fun _ hS => hS.1) Try.underlying25 rfl HI.out) hHeld ?_
    (try simp only [Act.put, List.setIfInBounds_toArray, List.set_cons_zero, List.set_cons_succ])
    refine wpAnyH_take (i := 2) (oi := _) (v := _) rfl (by kernel_rfl) (by kernel_rfl) (by kernel_rfl) (fun _ _ _ h => h) (yieldsIf_load_mid (by rfl) 25 _ rfl w.heap.size 0 rfl (nums .u8 h) _ (fun _ hS => hS.1) Try.underlying25 rfl HI.out) hHeld ?_
    (try simp only [Act.put, List.setIfInBounds_toArray, List.set_cons_zero, List.set_cons_succ])
    refine wpAnyH_ready (rs := [1]) (by kernel_rfl) (by simp) ?_
    refine AllReadyH.cons (o := _) rfl (fun K hK => ?_) AllReadyH.nil
    go_simp
    go_at_call 19
    (with_reducible refine (HX.out _).mono ?_)
    rintro e w9 ⟨rfl, hb⟩
    have HQ2 := Aside0.mk (HQ1.out.step hb)
    clear hb
    refine hK.out _ _ HQ2.out.held (fun hHeld => ?_)
    clear hK K
    (try simp only [Act.put, List.setIfInBounds_toArray, List.set_cons_zero, List.set_cons_succ])
    refine wpAnyH_ready (rs := [3]) (by kernel_rfl) (by simp) ?_
    refine AllReadyH.cons (o := _) rfl (fun K hK => ?_) AllReadyH.nil
    go_simp
    go_at_call 21
    (with_reducible refine (HXr.out _).mono ?_)
    rintro e w10 ⟨rfl, hb⟩
    have HQ3 := Aside0.mk (HQ2.out.step hb)
    clear hb
    refine hK.out _ _ HQ3.out.held (fun hHeld => ?_)
    clear hK K
    (try simp only [Act.put, List.setIfInBounds_toArray, List.set_cons_zero, List.set_cons_succ])
    refine wpAnyH_ready (rs := [4]) (by kernel_rfl) (by simp) ?_
    refine AllReadyH.cons (o := _) rfl (fun K hK => ?_) AllReadyH.nil
    go_simp
    refine hK.out _ _ hHeld (fun hHeld => ?_)
    clear hK K
    (try simp only [Act.put, List.setIfInBounds_toArray, List.set_cons_zero, List.set_cons_succ])
    refine wpAnyH_ready (rs := [5]) (by kernel_rfl) (by simp) ?_
    refine AllReadyH.cons (o := _) rfl (fun K hK => ?_) AllReadyH.nil
    go_simp
    refine hK.out _ _ hHeld (fun hHeld => ?_)
    clear hK K
    (try simp only [Act.put, List.setIfInBounds_toArray, List.set_cons_zero, List.set_cons_succ])
    refine wpAnyH_take (i := 6) (oi := _) (v := _) rfl (by kernel_rfl) (by kernel_rfl) (by kernel_rfl) (fun _ _ _ h => h) (yieldsIf_load_mid (by rfl) 25 _ rfl g5 0 rfl (nums .u8 h) _ (fun _ hS => hS.2.1) Try.underlying25 rfl HI.out) hHeld ?_
    (try simp only [Act.put, List.setIfInBounds_toArray, List.set_cons_zero, List.set_cons_succ])
    refine wpAnyH_take (i := 7) (oi := _) (v := _) rfl (by kernel_rfl) (by kernel_rfl) (by kernel_rfl) (fun _ _ _ h => h) (yieldsIf_load_mid (by rfl) 25 _ rfl w.heap.size 0 rfl (nums .u8 h) _ (fun _ hS => hS.1) Try.underlying25 rfl HI.out) hHeld ?_
    (try simp only [Act.put, List.setIfInBounds_toArray, List.set_cons_zero, List.set_cons_succ])
    refine wpAnyH_ready (rs := [8]) (by kernel_rfl) (by simp) ?_
    refine AllReadyH.cons (o := _) rfl (fun K hK => ?_) AllReadyH.nil
    go_simp
    refine hK.out _ _ hHeld (fun hHeld => ?_)
    clear hK K
    (try simp only [Act.put, List.setIfInBounds_toArray, List.set_cons_zero, List.set_cons_succ])
    refine wpAnyH_ready (rs := [9]) (by kernel_rfl) (by simp) ?_
    refine AllReadyH.cons (o := _) rfl (fun K hK => ?_) AllReadyH.nil
    go_simp
    refine hK.out _ _ hHeld (fun hHeld => ?_)
    clear hK K
    (try simp only [Act.put, List.setIfInBounds_toArray, List.set_cons_zero, List.set_cons_succ])
    refine wpAnyH_ready (rs := [10]) (by kernel_rfl) (by simp) ?_
    refine AllReadyH.cons (o := _) rfl (fun K hK => ?_) AllReadyH.nil
    go_simp
    refine hK.out _ _ hHeld (fun hHeld => ?_)
    clear hK K
    (try simp only [Act.put, List.setIfInBounds_toArray, List.set_cons_zero, List.set_cons_succ])
    refine wpAnyH_ready (rs := [11]) (by kernel_rfl) (by simp) ?_
    refine AllReadyH.cons (o := _) rfl (fun K hK => ?_) AllReadyH.nil
    go_simp
    refine hK.out _ _ hHeld (fun hHeld => ?_)
    clear hK K
    (try simp only [Act.put, List.setIfInBounds_toArray, List.set_cons_zero, List.set_cons_succ])
    refine wpAnyH_ready (rs := [12]) (by kernel_rfl) (by simp) ?_
    refine AllReadyH.cons (o := _) rfl (fun K hK => ?_) AllReadyH.nil
    go_simp
    refine hK.out _ _ hHeld (fun hHeld => ?_)
    clear hK K
    (try simp only [Act.put, List.setIfInBounds_toArray, List.set_cons_zero, List.set_cons_succ])
    refine wpAnyH_ready (rs := [13]) (by kernel_rfl) (by simp) ?_
    refine AllReadyH.cons (o := _) rfl (fun K hK => ?_) AllReadyH.nil
    go_simp
    refine hK.out _ _ hHeld (fun hHeld => ?_)
    clear hK K
    (try simp only [Act.put, List.setIfInBounds_toArray, List.set_cons_zero, List.set_cons_succ])
    refine wpAnyH_ready (rs := [14]) (by kernel_rfl) (by simp) ?_
    refine AllReadyH.cons (o := _) rfl (fun K hK => ?_) AllReadyH.nil
    go_simp
    refine hK.out _ _ hHeld (fun hHeld => ?_)
    clear hK K
    (try simp only [Act.put, List.setIfInBounds_toArray, List.set_cons_zero, List.set_cons_succ])
    refine wpAnyH_take (i := 15) (oi := _) (v := _) rfl (by kernel_rfl) (by kernel_rfl) (by kernel_rfl) (fun _ _ _ h => h) (yieldsIf_load_mid (by rfl) 25 _ rfl g7 0 rfl (nums .u8 F) _ (fun _ hS => hS.2.2.1) Try.underlying25 rfl HIF.out) hHeld ?_
    (try simp only [Act.put, List.setIfInBounds_toArray, List.set_cons_zero, List.set_cons_succ])
    refine wpAnyH_take (i := 16) (oi := _) (v := _) rfl (by kernel_rfl) (by kernel_rfl) (by kernel_rfl) (fun _ _ _ h => h) (yieldsIf_load_mid (by rfl) 25 _ rfl g9 0 rfl (nums .u8 F) _ (fun _ hS => hS.2.2.2) Try.underlying25 rfl HIF.out) hHeld ?_
    (try simp only [Act.put, List.setIfInBounds_toArray, List.set_cons_zero, List.set_cons_succ])
    refine wpAnyH_ready (rs := [17]) (by kernel_rfl) (by simp) ?_
    refine AllReadyH.cons (o := _) rfl (fun K hK => ?_) AllReadyH.nil
    go_simp
    refine hK.out _ _ hHeld (fun hHeld => ?_)
    clear hK K
    (try simp only [Act.put, List.setIfInBounds_toArray, List.set_cons_zero, List.set_cons_succ])
    refine wpAnyH_ready (rs := [18]) (by kernel_rfl) (by simp) ?_
    refine AllReadyH.cons (o := _) rfl (fun K hK => ?_) AllReadyH.nil
    go_simp
    refine hK.out _ _ hHeld (fun hHeld => ?_)
    clear hK K
    (try simp only [Act.put, List.setIfInBounds_toArray, List.set_cons_zero, List.set_cons_succ])
    refine wpAnyH_ready (rs := [19]) (by kernel_rfl) (by simp) ?_
    refine AllReadyH.cons (o := _) rfl (fun K hK => ?_) AllReadyH.nil
    go_simp
    refine hK.out _ _ hHeld (fun hHeld => ?_)
    clear hK K
    (try simp only [Act.put, List.setIfInBounds_toArray, List.set_cons_zero, List.set_cons_succ])
    refine wpAnyH_take (i := 20) (oi := _) (v := .int .i64 E) rfl (by kernel_rfl) (by kernel_rfl) (by kernel_rfl) (fun _ _ _ h => h) (.inl ⟨by rfl, fun w' _ => by simp [execOp, Act.eval]⟩) hHeld ?_
    (try simp only [Act.put, List.setIfInBounds_toArray, List.set_cons_zero, List.set_cons_succ])
    refine wpAnyH_take (i := 21) (oi := _) (v := .int .i64 E) rfl (by kernel_rfl) (by kernel_rfl) (by kernel_rfl) (fun _ _ _ h => h) (.inl ⟨by rfl, fun w' _ => by simp [execOp, Act.eval]⟩) hHeld ?_
    (try simp only [Act.put, List.setIfInBounds_toArray, List.set_cons_zero, List.set_cons_succ])
    refine wpAnyH_ready (rs := [22]) (by kernel_rfl) (by simp) ?_
    refine AllReadyH.cons (o := _) rfl (fun K hK => ?_) AllReadyH.nil
    go_simp
    refine hK.out _ _ hHeld (fun hHeld => ?_)
    clear hK K
    (try simp only [Act.put, List.setIfInBounds_toArray, List.set_cons_zero, List.set_cons_succ])
    refine wpAnyH_ready (rs := [23]) (by kernel_rfl) (by simp) ?_
    refine AllReadyH.cons (o := _) rfl (fun K hK => ?_) AllReadyH.nil
    go_simp
    refine hK.out _ _ hHeld (fun hHeld => ?_)
    clear hK K
    (try simp only [Act.put, List.setIfInBounds_toArray, List.set_cons_zero, List.set_cons_succ])
    refine wpAnyH_ready (rs := [24]) (by kernel_rfl) (by simp) ?_
    refine AllReadyH.cons (o := _) rfl (fun K hK => ?_) AllReadyH.nil
    go_simp
    refine hK.out _ _ hHeld (fun hHeld => ?_)
    clear hK K
    (try simp only [Act.put, List.setIfInBounds_toArray, List.set_cons_zero, List.set_cons_succ])
    refine wpAnyH_ready (rs := [25]) (by kernel_rfl) (by simp) ?_
    refine AllReadyH.cons (o := _) rfl (fun K hK => ?_) AllReadyH.nil
    go_simp
    go_at_call 13
    (with_reducible refine (known_any _).mono ?_)
    rintro e w11 ⟨rfl, hb⟩
    have HQ4 := Aside0.mk (HQ3.out.step hb)
    clear hb
    refine hK.out _ _ HQ4.out.held (fun hHeld => ?_)
    clear hK K
    (try simp only [Act.put, List.setIfInBounds_toArray, List.set_cons_zero, List.set_cons_succ])
    refine wpAnyH_ready (rs := [26]) (by kernel_rfl) (by simp) ?_
    refine AllReadyH.cons (o := _) rfl (fun K hK => ?_) AllReadyH.nil
    go_simp
    refine hK.out _ _ hHeld (fun hHeld => ?_)
    clear hK K
    (try simp only [Act.put, List.setIfInBounds_toArray, List.set_cons_zero, List.set_cons_succ])
    refine wpAnyH_ready (rs := [27]) (by kernel_rfl) (by simp) ?_
    refine AllReadyH.cons (o := _) rfl (fun K hK => ?_) AllReadyH.nil
    go_simp
    refine hK.out _ _ hHeld (fun hHeld => ?_)
    clear hK K
    (try simp only [Act.put, List.setIfInBounds_toArray, List.set_cons_zero, List.set_cons_succ])
    refine wpAnyH_done (by kernel_rfl) ?_ _
    go_wp2
    go_ret
    exact ⟨rfl, HQ4.out.b⟩
end Go.Proofs.Ytlkddmkfllnnhaa.Dg
