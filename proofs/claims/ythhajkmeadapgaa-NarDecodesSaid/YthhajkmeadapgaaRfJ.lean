/- nar's reference: read walked. Own work; printed by gen_rfj.py. -/
import Derived.Test.YthhajkmeadapgaaRfQ
namespace Go.Proofs.Ythhajkmeadapgaa.Tree
set_option linter.unusedVariables false
set_option linter.unusedSimpArgs false
open Go.RowKit Go.Proofs.Ythhajkmeadapgaa.PL Go.Proofs.Ythhajkmeadapgaa.Mn Go.Proofs.YthhajkmeadapgaaW.PrintWords Go.Proofs.YthhajkmeadapgaaW.PrintLast Go.Proofs.YthhajkmeadapgaaW.PrintMore
theorem rnode_full (w0 : World) (g : Nat) : ∀ F, NRC w0 g (F + 1) := by
  intro F
  induction F with
  | zero =>
    intro deep s n w hd hR hl hn
    by_cases hs : s.2 = 0
    · exact rnode_long w0 g 0 deep s n w (by omega) hR hl hn hs (.inr (by omega))
    · exact rnode_bad w0 g 0 deep s n w (by omega) hR hl hn hs
  | succ F ih =>
    intro deep s n w hd hR hl hn
    by_cases hs : s.2 = 0
    · by_cases hq : 65536 < n + 1 ∨ 64 < deep
      · exact rnode_long w0 g (F + 1) deep s n w (by omega) hR hl hn hs hq
      · by_cases hdd : (txS (wdS s [sL, sType])).1 = bytesOf sDir ∧ (txS (wdS s [sL, sType])).2.2 = 0
        · exact rnode_dir w0 g (F + 1) deep s n w (by omega) hR hl hn ih hs hq hdd
        · exact rnode_main w0 g (F + 1) deep s n w (by omega) hR hl hn ih hs hq (fun h0 h1 => hdd ⟨h1, h0⟩)
    · exact rnode_bad w0 g (F + 1) deep s n w (by omega) hR hl hn hs
/-- the reader, as read's walk keeps it -/
structure RY (w w2 wr : World) (g p : Nat) (s : RS) (n : Nat) : Prop where
  rd : RR w wr g s n
  bx : wr.heap[p]? = some (.cells #[.int .i64 0, .bool false, .slice none 0 0, .slice none 0 0, .slice none 0 0] 26 (0, 0))
  kp : KeepBut w2 wr g none
  gp : p ≠ g
  lp : w.heap.size ≤ p
  lt : p < w2.heap.size ∧ g < w2.heap.size
theorem RY.keep {w w2 wr w3 : World} {g p : Nat} {s s2 : RS} {n n2 : Nat} (h : RY w w2 wr g p s n) (hr : RR w w3 g s2 n2) (hk : KeepBut wr w3 g none) : RY w w2 w3 g p s2 n2 :=
  ⟨hr, hk.blk h.bx h.gp (by simp), h.kp.trans hk (.inl rfl), h.gp, h.lp, h.lt⟩
theorem RY.below {w w2 wr w3 : World} {g p : Nat} {s : RS} {n : Nat} (h : RY w w2 wr g p s n) (hb : Below wr.heap.size wr w3) : RY w w2 w3 g p s n := h.keep (h.rd.keep hb) (KeepBut.of_below hb g none)
theorem RY.err {w w2 wr : World} {g p : Nat} {s : RS} {n : Nat} (h : RY w w2 wr g p s n) (k : Int) : RY w w2 (wr.setCell ⟨g, 1, none⟩ (.int .i64 k)) g p (s.1, k) n := h.keep (h.rd.err k) (KeepBut.set_ (KeepBut.refl _ _ _) 1 _)
theorem rread_out {w w2 wr : World} {g p : Nat} {s : RS} {n : Nat} (h : RY w w2 wr g p s n) (a b c d e : Value) :
    Below w.heap.size w (((((wr.setCell ⟨p, 0, none⟩ a).setCell ⟨p, 1, none⟩ b).setCell ⟨p, 2, none⟩ c).setCell ⟨p, 3, none⟩ d).setCell ⟨p, 4, none⟩ e) :=
  below_set (below_set (below_set (below_set (below_set h.rd.b h.lp) h.lp) h.lp) h.lp) h.lp
/-- a tree between two worlds -/
abbrev KB (w3 wr : World) (t : S26) (cs : List Value) : Prop := KF (fun k => w3.heap.size ≤ k ∧ k < wr.heap.size) wr t cs
theorem KB.keep {w3 wr w4 : World} {g : Nat} {t : S26} {cs : List Value} (h : KB w3 wr t cs) (hk : KeepBut wr w4 g none) (hg : g < w3.heap.size) : KB w3 w4 t cs :=
  (KF.move h (fun k hk2 => hk.2 k hk2.2 (by have := hk2.1; omega) (by simp))).mono (fun k hk2 => ⟨hk2.1, Nat.lt_of_lt_of_le hk2.2 hk.1⟩)
theorem KB.below {w3 wr w4 : World} {t : S26} {cs : List Value} (h : KB w3 wr t cs) (hb : Below wr.heap.size wr w4) : KB w3 w4 t cs :=
  (KF.move h (fun k hk2 => hb.block _ hk2.2)).mono (fun k hk2 => ⟨hk2.1, Nat.lt_of_lt_of_le hk2.2 hb.size⟩)
theorem rread_post {T x : S26 × Nat × Int} {w w' : World} {cs : Array Value} (hT : T = x) (hM : KB w w' x.1 cs.toList) (hG : GT 65 x.1) (hb : Below w.heap.size w w') :
    ∃ cs', Ending.returned (.tuple #[.agg cs, .int .i64 (x.2.1 : Int), .int .i64 x.2.2]) = .returned (.tuple #[.agg cs', .int .i64 (T.2.1 : Int), .int .i64 T.2.2]) ∧ KB w w' T.1 cs'.toList ∧ GT 65 T.1 ∧ Below w.heap.size w w' := by
  subst hT
  exact ⟨cs, rfl, hM, hG, hb⟩
theorem rdec_post {T : S26} {k : Int} {w w' : World} {cs : Array Value} (hM : KB w w' T cs.toList) (hG : GT 65 T) (hb : Below w.heap.size w w') :
    ∃ cs', Ending.returned (.tuple #[.agg cs, .int .i64 k]) = .returned (.tuple #[.agg cs', .int .i64 k]) ∧ KB w w' T cs'.toList ∧ GT 65 T ∧ Below w.heap.size w w' := ⟨cs, rfl, hM, hG, hb⟩
theorem z0_K (w w2 : World) : KB w w2 z0 [.int .i64 0, .bool false, .slice none 0 0, .slice none 0 0, .slice none 0 0] := KF_z0 _ _
set_option maxRecDepth 20000 in
set_option maxHeartbeats 4000000 in
theorem rread_any (A : Option Addr) (c : Nat) (b : List Int) (more : Bool) (w : World) (hC : (Kd.int .u8).C w A b.length b) (hc : b.length ≤ c) (h8 : B8 b) (hl : b.length ≤ 1073741824) :
    Calls Try.prog 32 #[.slice A b.length c, .bool more] w fun e w' => ∃ cs, e = .returned (.tuple #[.agg cs, .int .i64 ((readS b (!more)).2.1 : Int), .int .i64 (readS b (!more)).2.2]) ∧ KB w w' (readS b (!more)).1 cs.toList ∧ GT 65 (readS b (!more)).1 ∧ Below w.heap.size w w' := by
  have HC := Aside0.mk (And.intro hC (And.intro hc h8))
  have hwb := below_alloc (Below.refl w.heap.size w) (.cells #[.int .i64 0, .bool false, .slice none 0 0, .slice none 0 0, .slice none 0 0] 26)
  have HP1 := Aside0.mk (heap_alloc_new w (.cells #[.int .i64 0, .bool false, .slice none 0 0, .slice none 0 0, .slice none 0 0] 26))
  have HB1 := Aside0.mk hwb
  clear hC hc h8 hwb
  have HRS : Aside0 (readS b (!more) = readT (nodeR 65 1 (wd1 (b, 0) sMagic, 0)).1 (nodeR 65 1 (wd1 (b, 0) sMagic, 0)).2.1 b.length (!more)) := ⟨by
    have h := nodeR_as 65 1 (wd1 (b, 0) sMagic) 0 0 (fun _ => rfl)
    rw [h.1, h.2.1]
    rfl⟩
  obtain ⟨T, hT⟩ : ∃ q, readS b (!more) = q := ⟨_, rfl⟩
  rw [hT] at HRS ⊢
  have HT := Aside0.mk hT
  clear hT
  go_enter Try.func32, Try.ntmps32
  go_upto_region 1 with fail
  generalize (w.alloc (.cells #[.int .i64 0, .bool false, .slice none 0 0, .slice none 0 0, .slice none 0 0] 26)) = w1 at *
  obtain ⟨p, hp⟩ : ∃ q, w.heap.size = q := ⟨_, rfl⟩
  rw [hp] at HP1 ⊢
  have HP : Aside0 (w.heap.size = p) := ⟨hp⟩
  clear hp
  go_upto_region 2 with fail
  have HX : Aside0 (RY w (w1.alloc (.cells #[.slice A b.length c, .int .i64 0, .int .i64 0] 83)) (w1.alloc (.cells #[.slice A b.length c, .int .i64 0, .int .i64 0] 83)) w1.heap.size p (b, 0) 0) := by
    refine ⟨⟨⟨⟨A, c, heap_alloc_new w1 _, HC.out.2.1, HC.out.1⟩, below_weaken HB1.out HB1.out.size (below_alloc (Below.refl _ w1) _), HB1.out.size, HC.out.2.2⟩, blk_alloc HP1.out _, KeepBut.refl _ _ _, ?_, by rw [HP.out]; exact Nat.le_refl _, ?_⟩⟩
    · have := blk_lt HP1.out; omega
    · have := blk_lt HP1.out; simp; omega
  generalize (w1.alloc (.cells #[.slice A b.length c, .int .i64 0, .int .i64 0] 83)) = w2 at *
  obtain ⟨g, hg⟩ : ∃ q, w1.heap.size = q := ⟨_, rfl⟩
  rw [hg] at HX ⊢
  clear hg
  have hlw := wdS_len [sMagic] (b, 0)
  have hlw : (wd1 (b, 0) sMagic).1.length ≤ b.length := hlw
  go_wp2_with fail
  refine (must_any w w2 g (b, 0) 0 sMagic HX.out.rd (by show b.length ≤ _; omega)).mono ?_
  rintro e_ w3 ⟨rfl, hr, hk⟩
  have HX3 := Aside0.mk (HX.out.keep hr hk)
  have HS35 : Aside0 (w2.heap.size ≤ w3.heap.size) := ⟨hk.1⟩
  clear hr hk HX
  obtain ⟨s1, hs1⟩ : ∃ q, wd1 (b, 0) sMagic = q := ⟨_, rfl⟩
  rw [hs1] at HRS HX3 hlw
  clear hs1
  go_wp2_with fail
  refine (rnode_full w g 64 1 s1 0 w3 rfl HX3.out.rd (by omega) (by omega)).mono ?_
  rintro e_ w4 ⟨cs, rfl, hM, hG, hr, hk⟩
  have HX4 := Aside0.mk (HX3.out.keep hr hk)
  have HS34 : Aside0 (w.heap.size ≤ w3.heap.size ∧ g < w3.heap.size ∧ p < w3.heap.size) := ⟨by have := HX3.out.kp.1; have := HX3.out.lt; have := HX3.out.lp; omega⟩
  obtain ⟨t, ht⟩ : ∃ q, (nodeR 65 1 (s1, 0)).1 = q := ⟨_, rfl⟩
  obtain ⟨s4, hs4⟩ : ∃ q, (nodeR 65 1 (s1, 0)).2.1 = q := ⟨_, rfl⟩
  have hlen4 := (nodeR_len 65 1 (s1, 0)).1
  rw [hs4] at hlen4
  have hlen4 : s4.1.length ≤ s1.1.length := hlen4
  rw [ht] at hM hG
  have HRS2 : Aside0 (T = readT t s4 b.length (!more)) := ⟨by rw [HRS.out, ht, hs4]⟩
  rw [hs4] at HX4
  generalize (nodeR 65 1 (s1, 0)).2.2 = n4 at *
  obtain ⟨q2, d2, q3, d3, q4, d4, hcs, hTR⟩ := k26_open (hM w4 (fun _ _ => rfl))
  obtain ⟨cs, rfl⟩ : ∃ l : List Value, cs = l.toArray := ⟨cs.toList, by simp⟩
  simp only [List.toList_toArray] at hcs hM
  subst hcs
  have HM4 : Aside0 (KB w3 w4 t _) := ⟨hM⟩
  have HG4 := Aside0.mk hG
  have HTR : Aside0 (TR w4 t q2 d2 q3 d3 q4 d4) := ⟨hTR⟩
  clear hM hG hr hk hTR ht hs4 HRS HX3
  have hb5 := below_alloc (Below.refl w4.heap.size w4) (.cells #[.int .i64 t.f0, .bool t.f1, .slice q2 t.f2.length d2, .slice q3 t.f3.length d3, .slice q4 t.f4.length d4] 26)
  have HT5 := Aside0.mk (heap_alloc_new w4 (.cells #[.int .i64 t.f0, .bool t.f1, .slice q2 t.f2.length d2, .slice q3 t.f3.length d3, .slice q4 t.f4.length d4] 26))
  have HX5 := Aside0.mk (HX4.out.below hb5)
  have HM5 := Aside0.mk (KB.below HM4.out hb5)
  have HTR5 := Aside0.mk (HTR.out.below hb5)
  have HQ5 : Aside0 (w4.heap.size ≠ g ∧ w4.heap.size ≠ p) := ⟨by have := HX4.out.kp.1; have := HX4.out.lt; omega⟩
  clear hb5 HM4 HTR HX4
  go_upto_region 4 with fail
  generalize (w4.alloc (.cells #[.int .i64 t.f0, .bool t.f1, .slice q2 t.f2.length d2, .slice q3 t.f3.length d3, .slice q4 t.f4.length d4] 26)) = w5 at *
  obtain ⟨tb, htb⟩ : ∃ q, w4.heap.size = q := ⟨_, rfl⟩
  rw [htb] at HT5 HQ5 ⊢
  clear htb
  by_cases h0 : s4.2 = 0
  · obtain ⟨Ar, cr, hblk, -, -⟩ := HX5.out.rd.blk
    obtain ⟨⟨pr, pe, -⟩, -, fe, -⟩ := cells3 hblk
    clear hblk
    rw [h0] at pe
    by_cases h1 : 0 < s4.1.length
    · have h1' : (0 : Int) < (s4.1.length : Int) := by omega
      cases more with
      | false =>
        have HX7 := Aside0.mk (HX5.out.err 3)
        go_upto_region 6 with fail
        clear pr pe fe
        generalize (w5.setCell ⟨g, 1, none⟩ (.int .i64 3)) = w7 at *
        have HXe := HX7
        obtain ⟨Ar, cr, hblk, -, -⟩ := HXe.out.rd.blk
        obtain ⟨⟨pr, pe, -⟩, -, fe, -⟩ := cells3 hblk
        clear hblk
        clear fe
        have HXd := Aside0.mk (HXe.out.below (below_drew (Below.refl _ w7)))
        have HTT : Aside0 (T = (z0, 0, 3)) := ⟨by rw [HRS2.out]; unfold readT; rw [if_neg (fun h => h h0), if_pos ⟨rfl, h1⟩]⟩
        have HPE : Aside0 (w7.cell? ⟨g, 1, none⟩ = some (.int .i64 3)) := ⟨pe⟩
        go_upto_region 9 with fail
        clear pe pr
        refine start_ (n := 8) (S := fun w' => w'.cell? ⟨g, 1, none⟩ = some (.int .i64 3)) (ds := []) #[false, false, false, false, false, false, false, false] (by kernel_rfl) rfl rfl HPE.out (fun hHeld => ?_)
        obtain ⟨wz, hwz⟩ : ∃ q, w7.drew = q := ⟨_, rfl⟩
        rw [hwz] at HXd hHeld ⊢
        clear hwz
        refine pure_ (i := 0) (N := some 51) (v := ?_) (a' := ?_) #[true, false, false, false, false, false, false, false] rfl rfl (by kernel_rfl) (fun _ _ _ h => h) (Or.inl ⟨by rfl, ?_⟩) ?_ ?_
        rotate_left
        · intro w'
          go_simp
          with_reducible rfl
        rotate_left
        · simp only [Act.put, List.setIfInBounds_toArray, List.set_cons_zero, List.set_cons_succ]
          rfl
        refine pure_ (i := 1) (N := some 52) (v := ?_) (a' := ?_) #[true, true, false, false, false, false, false, false] rfl rfl (by kernel_rfl) (fun _ _ _ h => h) (Or.inl ⟨by rfl, ?_⟩) ?_ ?_
        rotate_left
        · intro w'
          go_simp
          with_reducible rfl
        rotate_left
        · simp only [Act.put, List.setIfInBounds_toArray, List.set_cons_zero, List.set_cons_succ]
          rfl
        refine pure_ (i := 2) (N := some 53) (v := ?_) (a' := ?_) #[true, true, true, false, false, false, false, false] rfl rfl (by kernel_rfl) (fun _ _ _ h => h) (Or.inl ⟨by rfl, ?_⟩) ?_ ?_
        rotate_left
        · intro w'
          go_simp
          with_reducible rfl
        rotate_left
        · simp only [Act.put, List.setIfInBounds_toArray, List.set_cons_zero, List.set_cons_succ]
          rfl
        refine pure_ (i := 3) (N := some 54) (v := ?_) (a' := ?_) #[true, true, true, true, false, false, false, false] rfl rfl (by kernel_rfl) (fun _ _ _ h => h) (Or.inl ⟨by rfl, ?_⟩) ?_ ?_
        rotate_left
        · intro w'
          go_simp
          with_reducible rfl
        rotate_left
        · simp only [Act.put, List.setIfInBounds_toArray, List.set_cons_zero, List.set_cons_succ]
          rfl
        refine take_ (i := 4) (N := some 55) (v := ?_) (a' := ?_) #[true, true, true, true, true, false, false, false] rfl rfl (by kernel_rfl) (fun _ _ _ h => h) (Or.inl ⟨by rfl, ?_⟩) hHeld ?_ ?_
        rotate_left
        · rintro w' s0
          go_simp
          with_reducible rfl
        rotate_left
        · simp only [Act.put, List.setIfInBounds_toArray, List.set_cons_zero, List.set_cons_succ]
          rfl
        obtain ⟨b0, b1, b2, b3, b4⟩ := cells5 HXd.out.bx
        have f0 := blk_frozen HXd.out.bx 0
        have f1 := blk_frozen HXd.out.bx 1
        have f2 := blk_frozen HXd.out.bx 2
        have f3 := blk_frozen HXd.out.bx 3
        have f4 := blk_frozen HXd.out.bx 4
        refine one_ (i := 5) (N := none) #[true, true, true, true, true, true, false, false] rfl rfl (by kernel_rfl) (by decide) (fun K hK => ?_)
        go_simp
        refine hK.out _ _ (far5 HXd.out.gp hHeld (.int .i64 0) (.bool false) (.slice none 0 0) (.slice none 0 0) (.slice none 0 0)) (fun hHeld => ?_)
        clear hK K
        refine pure_ (i := 6) (N := some 5) (v := ?_) (a' := ?_) #[true, true, true, true, true, true, true, false] rfl rfl (by kernel_rfl) (fun _ _ _ h => h) (Or.inl ⟨by rfl, ?_⟩) ?_ ?_
        rotate_left
        · intro w'
          go_simp
          with_reducible rfl
        rotate_left
        · simp only [Act.put, List.setIfInBounds_toArray, List.set_cons_zero, List.set_cons_succ]
          rfl
        refine pure_ (i := 7) (N := some 6) (v := ?_) (a' := ?_) #[true, true, true, true, true, true, true, true] rfl rfl (by kernel_rfl) (fun _ _ _ h => h) (Or.inl ⟨by rfl, ?_⟩) ?_ ?_
        rotate_left
        · intro w'
          go_simp
          with_reducible rfl
        rotate_left
        · simp only [Act.put, List.setIfInBounds_toArray, List.set_cons_zero, List.set_cons_succ]
          rfl
        refine done_ (by kernel_rfl) ?_
        go_wp2_with fail
        have hbs := box_same HXd.out.bx (.int .i64 0) (.bool false) (.slice none 0 0) (.slice none 0 0) (.slice none 0 0)
        have hro := rread_out HXd.out (.int .i64 0) (.bool false) (.slice none 0 0) (.slice none 0 0) (.slice none 0 0)
        refine bodyPost_ret (results_c2 rfl _ _ p 26 _ (0, 0) _ rfl hbs Try.underlying26 rfl (by kernel_rfl)) rfl ?_
        exact rread_post HTT.out (z0_K _ _) (GT_z0 64) hro
      | true =>
        obtain ⟨x0, x1, x2, x3, x4⟩ := cells5 HT5.out
        obtain ⟨k, hk9⟩ : ∃ q, (chk 65 t 1 0).1 = q := ⟨_, rfl⟩
        have HK9 := Aside0.mk hk9
        clear hk9
        go_wp2_with fail
        refine (RCheck_any 65 t q2 d2 q3 d3 q4 d4 w5 HTR5.out HG4.out).mono ?_
        rintro e_ w6 ⟨rfl, hb6⟩
        have HX6 := Aside0.mk (HX5.out.below hb6)
        have HT6 := Aside0.mk ((hb6.block _ (blk_lt HT5.out)).trans HT5.out)
        have HM6 := Aside0.mk (KB.below HM5.out hb6)
        clear hb6 x0 x1 x2 x3 x4 pe pr fe
        rw [HK9.out]
        have HX7 := Aside0.mk (HX6.out.err k)
        have HT7 := Aside0.mk (blk_far HT6.out (p := ⟨g, 1, none⟩) HQ5.out.1 (.int .i64 k))
        have HM7 := Aside0.mk (KB.keep HM6.out (KeepBut.set_ (KeepBut.refl w6 g none) 1 (.int .i64 k)) HS34.out.2.1)
        obtain ⟨Ar, cr, hblk, -, -⟩ := HX6.out.rd.blk
        obtain ⟨⟨pr, pe, -⟩, -, fe, -⟩ := cells3 hblk
        clear hblk
        go_upto_region 8 with fail
        clear pr pe fe HX6 HT6 HM6
        generalize (w6.setCell ⟨g, 1, none⟩ (.int .i64 k)) = w7 at *
        by_cases hk0 : k = 0
        · subst hk0
          have HXe := HX7
          obtain ⟨Ar, cr, hblk, -, -⟩ := HXe.out.rd.blk
          obtain ⟨⟨pr, pe, -⟩, -, fe, -⟩ := cells3 hblk
          clear hblk
          clear fe
          have HXd := Aside0.mk (HXe.out.below (below_drew (Below.refl _ w7)))
          have HMd := Aside0.mk (KB.below HM7.out (below_drew (Below.refl _ w7)))
          have HTT : Aside0 (T = (t, b.length - s4.1.length, 0)) := ⟨by rw [HRS2.out]; unfold readT; rw [if_neg (fun h => h h0), if_neg (fun h => by cases h.1), if_neg (by rw [HK9.out]; simp)]⟩
          have pr2 : w7.cell? ⟨g, 0, none⟩ = some (.slice Ar s4.1.length cr) := pr
          have pe2 : w7.cell? ⟨g, 1, none⟩ = some (.int .i64 0) := pe
          clear pr pe
          have HPR := Aside0.mk pr2
          go_upto_region 10 with fail
          clear pr2 pe2
          obtain ⟨x0, x1, x2, x3, x4⟩ := cells5 HT7.out
          refine start_ (n := 12) (S := fun w' => w'.cell? ⟨g, 0, none⟩ = some (.slice Ar s4.1.length cr) ∧ w'.cell? ⟨tb, 0, none⟩ = some (.int .i64 t.f0) ∧ w'.cell? ⟨tb, 1, none⟩ = some (.bool t.f1) ∧ w'.cell? ⟨tb, 2, none⟩ = some (.slice q2 t.f2.length d2) ∧ w'.cell? ⟨tb, 3, none⟩ = some (.slice q3 t.f3.length d3) ∧ w'.cell? ⟨tb, 4, none⟩ = some (.slice q4 t.f4.length d4)) (ds := []) #[false, false, false, false, false, false, false, false, false, false, false, false] (by kernel_rfl) rfl rfl ⟨HPR.out, x0, x1, x2, x3, x4⟩ (fun hHeld => ?_)
          obtain ⟨wz, hwz⟩ : ∃ q, w7.drew = q := ⟨_, rfl⟩
          rw [hwz] at HXd HMd hHeld ⊢
          clear hwz x0 x1 x2 x3 x4
          have hsub : IntKind.i64.wrap ((b.length : Int) - (s4.1.length : Int)) = ((b.length - s4.1.length : Nat) : Int) := by rw [IntKind.wrap_i64]; omega
          have HSUB := Aside0.mk hsub
          clear hsub
          refine take_ (i := 0) (N := some 56) (v := ?_) (a' := ?_) #[true, false, false, false, false, false, false, false, false, false, false, false] rfl rfl (by kernel_rfl) (fun _ _ _ h => h) (Or.inl ⟨by rfl, ?_⟩) hHeld ?_ ?_
          rotate_left
          · rintro w' ⟨s0, s1, s2, s3, s4, s5⟩
            go_simp
            with_reducible rfl
          rotate_left
          · simp only [Act.put, List.setIfInBounds_toArray, List.set_cons_zero, List.set_cons_succ]
            rfl
          refine pure_ (i := 1) (N := some 57) (v := ?_) (a' := ?_) #[true, true, false, false, false, false, false, false, false, false, false, false] rfl rfl (by kernel_rfl) (fun _ _ _ h => h) (Or.inl ⟨by rfl, ?_⟩) ?_ ?_
          rotate_left
          · intro w'
            go_simp
            with_reducible rfl
          rotate_left
          · simp only [Act.put, List.setIfInBounds_toArray, List.set_cons_zero, List.set_cons_succ]
            rfl
          refine pure_ (i := 2) (N := some 58) (v := ?_) (a' := ?_) #[true, true, true, false, false, false, false, false, false, false, false, false] rfl rfl (by kernel_rfl) (fun _ _ _ h => h) (Or.inl ⟨by rfl, ?_⟩) ?_ ?_
          rotate_left
          · intro w'
            go_simp
            with_reducible rfl
          rotate_left
          · simp only [Act.put, List.setIfInBounds_toArray, List.set_cons_zero, List.set_cons_succ]
            rfl
          refine pure_ (i := 3) (N := some 59) (v := ?_) (a' := ?_) #[true, true, true, true, false, false, false, false, false, false, false, false] rfl rfl (by kernel_rfl) (fun _ _ _ h => h) (Or.inl ⟨by rfl, ?_⟩) ?_ ?_
          rotate_left
          · intro w'
            go_simp
            with_reducible rfl
          rotate_left
          · simp only [Act.put, List.setIfInBounds_toArray, List.set_cons_zero, List.set_cons_succ]
            rfl
          refine pure_ (i := 4) (N := some 60) (v := ?_) (a' := ?_) #[true, true, true, true, true, false, false, false, false, false, false, false] rfl rfl (by kernel_rfl) (fun _ _ _ h => h) (Or.inl ⟨by rfl, ?_⟩) ?_ ?_
          rotate_left
          · intro w'
            go_simp
            with_reducible rfl
          rotate_left
          · simp only [Act.put, List.setIfInBounds_toArray, List.set_cons_zero, List.set_cons_succ]
            rfl
          refine pure_ (i := 5) (N := some 61) (v := ?_) (a' := ?_) #[true, true, true, true, true, true, false, false, false, false, false, false] rfl rfl (by kernel_rfl) (fun _ _ _ h => h) (Or.inl ⟨by rfl, ?_⟩) ?_ ?_
          rotate_left
          · intro w'
            go_simp
            with_reducible rfl
          rotate_left
          · simp only [Act.put, List.setIfInBounds_toArray, List.set_cons_zero, List.set_cons_succ]
            rfl
          refine take_ (i := 6) (N := some 62) (v := ?_) (a' := ?_) #[true, true, true, true, true, true, true, false, false, false, false, false] rfl rfl (by kernel_rfl) (fun _ _ _ h => h) (Or.inl ⟨by rfl, ?_⟩) hHeld ?_ ?_
          rotate_left
          · rintro w' ⟨s0, s1, s2, s3, s4, s5⟩
            go_simp
            with_reducible rfl
          rotate_left
          · simp only [Act.put, List.setIfInBounds_toArray, List.set_cons_zero, List.set_cons_succ]
            rfl
          refine pure_ (i := 7) (N := some 63) (v := ?_) (a' := ?_) #[true, true, true, true, true, true, true, true, false, false, false, false] rfl rfl (by kernel_rfl) (fun _ _ _ h => h) (Or.inl ⟨by rfl, ?_⟩) ?_ ?_
          rotate_left
          · intro w'
            go_simp
            with_reducible rfl
          rotate_left
          · simp only [Act.put, List.setIfInBounds_toArray, List.set_cons_zero, List.set_cons_succ]
            rfl
          refine pure_ (i := 8) (N := some 64) (v := ?_) (a' := ?_) #[true, true, true, true, true, true, true, true, true, false, false, false] rfl rfl (by kernel_rfl) (fun _ _ _ h => h) (Or.inl ⟨by rfl, ?_⟩) ?_ ?_
          rotate_left
          · intro w'
            go_simp
            with_reducible rfl
          rotate_left
          · simp only [Act.put, List.setIfInBounds_toArray, List.set_cons_zero, List.set_cons_succ]
            rfl
          obtain ⟨b0, b1, b2, b3, b4⟩ := cells5 HXd.out.bx
          have f0 := blk_frozen HXd.out.bx 0
          have f1 := blk_frozen HXd.out.bx 1
          have f2 := blk_frozen HXd.out.bx 2
          have f3 := blk_frozen HXd.out.bx 3
          have f4 := blk_frozen HXd.out.bx 4
          refine one_ (i := 9) (N := none) #[true, true, true, true, true, true, true, true, true, true, false, false] rfl rfl (by kernel_rfl) (by decide) (fun K hK => ?_)
          go_simp
          refine hK.out _ _ ⟨far5 HXd.out.gp hHeld.1 (.int .i64 t.f0) (.bool t.f1) (.slice q2 t.f2.length d2) (.slice q3 t.f3.length d3) (.slice q4 t.f4.length d4), far5 (fun e => HQ5.out.2 e.symm) hHeld.2.1 (.int .i64 t.f0) (.bool t.f1) (.slice q2 t.f2.length d2) (.slice q3 t.f3.length d3) (.slice q4 t.f4.length d4), far5 (fun e => HQ5.out.2 e.symm) hHeld.2.2.1 (.int .i64 t.f0) (.bool t.f1) (.slice q2 t.f2.length d2) (.slice q3 t.f3.length d3) (.slice q4 t.f4.length d4), far5 (fun e => HQ5.out.2 e.symm) hHeld.2.2.2.1 (.int .i64 t.f0) (.bool t.f1) (.slice q2 t.f2.length d2) (.slice q3 t.f3.length d3) (.slice q4 t.f4.length d4), far5 (fun e => HQ5.out.2 e.symm) hHeld.2.2.2.2.1 (.int .i64 t.f0) (.bool t.f1) (.slice q2 t.f2.length d2) (.slice q3 t.f3.length d3) (.slice q4 t.f4.length d4), far5 (fun e => HQ5.out.2 e.symm) hHeld.2.2.2.2.2 (.int .i64 t.f0) (.bool t.f1) (.slice q2 t.f2.length d2) (.slice q3 t.f3.length d3) (.slice q4 t.f4.length d4)⟩ (fun hHeld => ?_)
          clear hK K
          refine pure_ (i := 10) (N := some 5) (v := ?_) (a' := ?_) #[true, true, true, true, true, true, true, true, true, true, true, false] rfl rfl (by kernel_rfl) (fun _ _ _ h => h) (Or.inl ⟨by rfl, ?_⟩) ?_ ?_
          rotate_left
          · intro w'
            go_simp
            with_reducible rfl
          rotate_left
          · simp only [Act.put, List.setIfInBounds_toArray, List.set_cons_zero, List.set_cons_succ]
            rfl
          refine pure_ (i := 11) (N := some 6) (v := ?_) (a' := ?_) #[true, true, true, true, true, true, true, true, true, true, true, true] rfl rfl (by kernel_rfl) (fun _ _ _ h => h) (Or.inl ⟨by rfl, ?_⟩) ?_ ?_
          rotate_left
          · intro w'
            go_simp
            with_reducible rfl
          rotate_left
          · simp only [Act.put, List.setIfInBounds_toArray, List.set_cons_zero, List.set_cons_succ]
            rfl
          refine done_ (by kernel_rfl) ?_
          go_wp2_with fail
          have hbs := box_same HXd.out.bx (.int .i64 t.f0) (.bool t.f1) (.slice q2 t.f2.length d2) (.slice q3 t.f3.length d3) (.slice q4 t.f4.length d4)
          have hro := rread_out HXd.out (.int .i64 t.f0) (.bool t.f1) (.slice q2 t.f2.length d2) (.slice q3 t.f3.length d3) (.slice q4 t.f4.length d4)
          refine bodyPost_ret (results_c2 rfl _ _ p 26 _ (0, 0) _ rfl hbs Try.underlying26 rfl (by kernel_rfl)) rfl ?_
          have hrp := rread_post HTT.out (KF_five (w := w) HMd.out HS34.out.2.2 HS34.out.1) HG4.out hro
          simp only at hrp
          rw [← HSUB.out] at hrp
          exact hrp
        · have hb2 : (k != 0) = true := by simpa using hk0
          have HXe := HX7
          obtain ⟨Ar, cr, hblk, -, -⟩ := HXe.out.rd.blk
          obtain ⟨⟨pr, pe, -⟩, -, fe, -⟩ := cells3 hblk
          clear hblk
          clear fe
          have HXd := Aside0.mk (HXe.out.below (below_drew (Below.refl _ w7)))
          have HTT : Aside0 (T = (z0, 0, k)) := ⟨by rw [HRS2.out]; unfold readT; rw [if_neg (fun h => h h0), if_neg (fun h => by cases h.1), if_pos (by rw [HK9.out]; exact hk0), HK9.out]⟩
          have HPE : Aside0 (w7.cell? ⟨g, 1, none⟩ = some (.int .i64 k)) := ⟨pe⟩
          go_upto_region 9 with fail
          clear pe pr
          refine start_ (n := 8) (S := fun w' => w'.cell? ⟨g, 1, none⟩ = some (.int .i64 k)) (ds := []) #[false, false, false, false, false, false, false, false] (by kernel_rfl) rfl rfl HPE.out (fun hHeld => ?_)
          obtain ⟨wz, hwz⟩ : ∃ q, w7.drew = q := ⟨_, rfl⟩
          rw [hwz] at HXd hHeld ⊢
          clear hwz
          refine pure_ (i := 0) (N := some 51) (v := ?_) (a' := ?_) #[true, false, false, false, false, false, false, false] rfl rfl (by kernel_rfl) (fun _ _ _ h => h) (Or.inl ⟨by rfl, ?_⟩) ?_ ?_
          rotate_left
          · intro w'
            go_simp
            with_reducible rfl
          rotate_left
          · simp only [Act.put, List.setIfInBounds_toArray, List.set_cons_zero, List.set_cons_succ]
            rfl
          refine pure_ (i := 1) (N := some 52) (v := ?_) (a' := ?_) #[true, true, false, false, false, false, false, false] rfl rfl (by kernel_rfl) (fun _ _ _ h => h) (Or.inl ⟨by rfl, ?_⟩) ?_ ?_
          rotate_left
          · intro w'
            go_simp
            with_reducible rfl
          rotate_left
          · simp only [Act.put, List.setIfInBounds_toArray, List.set_cons_zero, List.set_cons_succ]
            rfl
          refine pure_ (i := 2) (N := some 53) (v := ?_) (a' := ?_) #[true, true, true, false, false, false, false, false] rfl rfl (by kernel_rfl) (fun _ _ _ h => h) (Or.inl ⟨by rfl, ?_⟩) ?_ ?_
          rotate_left
          · intro w'
            go_simp
            with_reducible rfl
          rotate_left
          · simp only [Act.put, List.setIfInBounds_toArray, List.set_cons_zero, List.set_cons_succ]
            rfl
          refine pure_ (i := 3) (N := some 54) (v := ?_) (a' := ?_) #[true, true, true, true, false, false, false, false] rfl rfl (by kernel_rfl) (fun _ _ _ h => h) (Or.inl ⟨by rfl, ?_⟩) ?_ ?_
          rotate_left
          · intro w'
            go_simp
            with_reducible rfl
          rotate_left
          · simp only [Act.put, List.setIfInBounds_toArray, List.set_cons_zero, List.set_cons_succ]
            rfl
          refine take_ (i := 4) (N := some 55) (v := ?_) (a' := ?_) #[true, true, true, true, true, false, false, false] rfl rfl (by kernel_rfl) (fun _ _ _ h => h) (Or.inl ⟨by rfl, ?_⟩) hHeld ?_ ?_
          rotate_left
          · rintro w' s0
            go_simp
            with_reducible rfl
          rotate_left
          · simp only [Act.put, List.setIfInBounds_toArray, List.set_cons_zero, List.set_cons_succ]
            rfl
          obtain ⟨b0, b1, b2, b3, b4⟩ := cells5 HXd.out.bx
          have f0 := blk_frozen HXd.out.bx 0
          have f1 := blk_frozen HXd.out.bx 1
          have f2 := blk_frozen HXd.out.bx 2
          have f3 := blk_frozen HXd.out.bx 3
          have f4 := blk_frozen HXd.out.bx 4
          refine one_ (i := 5) (N := none) #[true, true, true, true, true, true, false, false] rfl rfl (by kernel_rfl) (by decide) (fun K hK => ?_)
          go_simp
          refine hK.out _ _ (far5 HXd.out.gp hHeld (.int .i64 0) (.bool false) (.slice none 0 0) (.slice none 0 0) (.slice none 0 0)) (fun hHeld => ?_)
          clear hK K
          refine pure_ (i := 6) (N := some 5) (v := ?_) (a' := ?_) #[true, true, true, true, true, true, true, false] rfl rfl (by kernel_rfl) (fun _ _ _ h => h) (Or.inl ⟨by rfl, ?_⟩) ?_ ?_
          rotate_left
          · intro w'
            go_simp
            with_reducible rfl
          rotate_left
          · simp only [Act.put, List.setIfInBounds_toArray, List.set_cons_zero, List.set_cons_succ]
            rfl
          refine pure_ (i := 7) (N := some 6) (v := ?_) (a' := ?_) #[true, true, true, true, true, true, true, true] rfl rfl (by kernel_rfl) (fun _ _ _ h => h) (Or.inl ⟨by rfl, ?_⟩) ?_ ?_
          rotate_left
          · intro w'
            go_simp
            with_reducible rfl
          rotate_left
          · simp only [Act.put, List.setIfInBounds_toArray, List.set_cons_zero, List.set_cons_succ]
            rfl
          refine done_ (by kernel_rfl) ?_
          go_wp2_with fail
          have hbs := box_same HXd.out.bx (.int .i64 0) (.bool false) (.slice none 0 0) (.slice none 0 0) (.slice none 0 0)
          have hro := rread_out HXd.out (.int .i64 0) (.bool false) (.slice none 0 0) (.slice none 0 0) (.slice none 0 0)
          refine bodyPost_ret (results_c2 rfl _ _ p 26 _ (0, 0) _ rfl hbs Try.underlying26 rfl (by kernel_rfl)) rfl ?_
          exact rread_post HTT.out (z0_K _ _) (GT_z0 64) hro
    · have h1' : ¬ (0 : Int) < (s4.1.length : Int) := by omega
      obtain ⟨x0, x1, x2, x3, x4⟩ := cells5 HT5.out
      obtain ⟨k, hk9⟩ : ∃ q, (chk 65 t 1 0).1 = q := ⟨_, rfl⟩
      have HK9 := Aside0.mk hk9
      clear hk9
      go_wp2_with fail
      refine (RCheck_any 65 t q2 d2 q3 d3 q4 d4 w5 HTR5.out HG4.out).mono ?_
      rintro e_ w6 ⟨rfl, hb6⟩
      have HX6 := Aside0.mk (HX5.out.below hb6)
      have HT6 := Aside0.mk ((hb6.block _ (blk_lt HT5.out)).trans HT5.out)
      have HM6 := Aside0.mk (KB.below HM5.out hb6)
      clear hb6 x0 x1 x2 x3 x4 pe pr fe
      rw [HK9.out]
      have HX7 := Aside0.mk (HX6.out.err k)
      have HT7 := Aside0.mk (blk_far HT6.out (p := ⟨g, 1, none⟩) HQ5.out.1 (.int .i64 k))
      have HM7 := Aside0.mk (KB.keep HM6.out (KeepBut.set_ (KeepBut.refl w6 g none) 1 (.int .i64 k)) HS34.out.2.1)
      obtain ⟨Ar, cr, hblk, -, -⟩ := HX6.out.rd.blk
      obtain ⟨⟨pr, pe, -⟩, -, fe, -⟩ := cells3 hblk
      clear hblk
      go_upto_region 8 with fail
      clear pr pe fe HX6 HT6 HM6
      generalize (w6.setCell ⟨g, 1, none⟩ (.int .i64 k)) = w7 at *
      by_cases hk0 : k = 0
      · subst hk0
        have HXe := HX7
        obtain ⟨Ar, cr, hblk, -, -⟩ := HXe.out.rd.blk
        obtain ⟨⟨pr, pe, -⟩, -, fe, -⟩ := cells3 hblk
        clear hblk
        clear fe
        have HXd := Aside0.mk (HXe.out.below (below_drew (Below.refl _ w7)))
        have HMd := Aside0.mk (KB.below HM7.out (below_drew (Below.refl _ w7)))
        have HTT : Aside0 (T = (t, b.length - s4.1.length, 0)) := ⟨by rw [HRS2.out]; unfold readT; rw [if_neg (fun h => h h0), if_neg (fun h => h1 h.2), if_neg (by rw [HK9.out]; simp)]⟩
        have pr2 : w7.cell? ⟨g, 0, none⟩ = some (.slice Ar s4.1.length cr) := pr
        have pe2 : w7.cell? ⟨g, 1, none⟩ = some (.int .i64 0) := pe
        clear pr pe
        have HPR := Aside0.mk pr2
        go_upto_region 10 with fail
        clear pr2 pe2
        obtain ⟨x0, x1, x2, x3, x4⟩ := cells5 HT7.out
        refine start_ (n := 12) (S := fun w' => w'.cell? ⟨g, 0, none⟩ = some (.slice Ar s4.1.length cr) ∧ w'.cell? ⟨tb, 0, none⟩ = some (.int .i64 t.f0) ∧ w'.cell? ⟨tb, 1, none⟩ = some (.bool t.f1) ∧ w'.cell? ⟨tb, 2, none⟩ = some (.slice q2 t.f2.length d2) ∧ w'.cell? ⟨tb, 3, none⟩ = some (.slice q3 t.f3.length d3) ∧ w'.cell? ⟨tb, 4, none⟩ = some (.slice q4 t.f4.length d4)) (ds := []) #[false, false, false, false, false, false, false, false, false, false, false, false] (by kernel_rfl) rfl rfl ⟨HPR.out, x0, x1, x2, x3, x4⟩ (fun hHeld => ?_)
        obtain ⟨wz, hwz⟩ : ∃ q, w7.drew = q := ⟨_, rfl⟩
        rw [hwz] at HXd HMd hHeld ⊢
        clear hwz x0 x1 x2 x3 x4
        have hsub : IntKind.i64.wrap ((b.length : Int) - (s4.1.length : Int)) = ((b.length - s4.1.length : Nat) : Int) := by rw [IntKind.wrap_i64]; omega
        have HSUB := Aside0.mk hsub
        clear hsub
        refine take_ (i := 0) (N := some 56) (v := ?_) (a' := ?_) #[true, false, false, false, false, false, false, false, false, false, false, false] rfl rfl (by kernel_rfl) (fun _ _ _ h => h) (Or.inl ⟨by rfl, ?_⟩) hHeld ?_ ?_
        rotate_left
        · rintro w' ⟨s0, s1, s2, s3, s4, s5⟩
          go_simp
          with_reducible rfl
        rotate_left
        · simp only [Act.put, List.setIfInBounds_toArray, List.set_cons_zero, List.set_cons_succ]
          rfl
        refine pure_ (i := 1) (N := some 57) (v := ?_) (a' := ?_) #[true, true, false, false, false, false, false, false, false, false, false, false] rfl rfl (by kernel_rfl) (fun _ _ _ h => h) (Or.inl ⟨by rfl, ?_⟩) ?_ ?_
        rotate_left
        · intro w'
          go_simp
          with_reducible rfl
        rotate_left
        · simp only [Act.put, List.setIfInBounds_toArray, List.set_cons_zero, List.set_cons_succ]
          rfl
        refine pure_ (i := 2) (N := some 58) (v := ?_) (a' := ?_) #[true, true, true, false, false, false, false, false, false, false, false, false] rfl rfl (by kernel_rfl) (fun _ _ _ h => h) (Or.inl ⟨by rfl, ?_⟩) ?_ ?_
        rotate_left
        · intro w'
          go_simp
          with_reducible rfl
        rotate_left
        · simp only [Act.put, List.setIfInBounds_toArray, List.set_cons_zero, List.set_cons_succ]
          rfl
        refine pure_ (i := 3) (N := some 59) (v := ?_) (a' := ?_) #[true, true, true, true, false, false, false, false, false, false, false, false] rfl rfl (by kernel_rfl) (fun _ _ _ h => h) (Or.inl ⟨by rfl, ?_⟩) ?_ ?_
        rotate_left
        · intro w'
          go_simp
          with_reducible rfl
        rotate_left
        · simp only [Act.put, List.setIfInBounds_toArray, List.set_cons_zero, List.set_cons_succ]
          rfl
        refine pure_ (i := 4) (N := some 60) (v := ?_) (a' := ?_) #[true, true, true, true, true, false, false, false, false, false, false, false] rfl rfl (by kernel_rfl) (fun _ _ _ h => h) (Or.inl ⟨by rfl, ?_⟩) ?_ ?_
        rotate_left
        · intro w'
          go_simp
          with_reducible rfl
        rotate_left
        · simp only [Act.put, List.setIfInBounds_toArray, List.set_cons_zero, List.set_cons_succ]
          rfl
        refine pure_ (i := 5) (N := some 61) (v := ?_) (a' := ?_) #[true, true, true, true, true, true, false, false, false, false, false, false] rfl rfl (by kernel_rfl) (fun _ _ _ h => h) (Or.inl ⟨by rfl, ?_⟩) ?_ ?_
        rotate_left
        · intro w'
          go_simp
          with_reducible rfl
        rotate_left
        · simp only [Act.put, List.setIfInBounds_toArray, List.set_cons_zero, List.set_cons_succ]
          rfl
        refine take_ (i := 6) (N := some 62) (v := ?_) (a' := ?_) #[true, true, true, true, true, true, true, false, false, false, false, false] rfl rfl (by kernel_rfl) (fun _ _ _ h => h) (Or.inl ⟨by rfl, ?_⟩) hHeld ?_ ?_
        rotate_left
        · rintro w' ⟨s0, s1, s2, s3, s4, s5⟩
          go_simp
          with_reducible rfl
        rotate_left
        · simp only [Act.put, List.setIfInBounds_toArray, List.set_cons_zero, List.set_cons_succ]
          rfl
        refine pure_ (i := 7) (N := some 63) (v := ?_) (a' := ?_) #[true, true, true, true, true, true, true, true, false, false, false, false] rfl rfl (by kernel_rfl) (fun _ _ _ h => h) (Or.inl ⟨by rfl, ?_⟩) ?_ ?_
        rotate_left
        · intro w'
          go_simp
          with_reducible rfl
        rotate_left
        · simp only [Act.put, List.setIfInBounds_toArray, List.set_cons_zero, List.set_cons_succ]
          rfl
        refine pure_ (i := 8) (N := some 64) (v := ?_) (a' := ?_) #[true, true, true, true, true, true, true, true, true, false, false, false] rfl rfl (by kernel_rfl) (fun _ _ _ h => h) (Or.inl ⟨by rfl, ?_⟩) ?_ ?_
        rotate_left
        · intro w'
          go_simp
          with_reducible rfl
        rotate_left
        · simp only [Act.put, List.setIfInBounds_toArray, List.set_cons_zero, List.set_cons_succ]
          rfl
        obtain ⟨b0, b1, b2, b3, b4⟩ := cells5 HXd.out.bx
        have f0 := blk_frozen HXd.out.bx 0
        have f1 := blk_frozen HXd.out.bx 1
        have f2 := blk_frozen HXd.out.bx 2
        have f3 := blk_frozen HXd.out.bx 3
        have f4 := blk_frozen HXd.out.bx 4
        refine one_ (i := 9) (N := none) #[true, true, true, true, true, true, true, true, true, true, false, false] rfl rfl (by kernel_rfl) (by decide) (fun K hK => ?_)
        go_simp
        refine hK.out _ _ ⟨far5 HXd.out.gp hHeld.1 (.int .i64 t.f0) (.bool t.f1) (.slice q2 t.f2.length d2) (.slice q3 t.f3.length d3) (.slice q4 t.f4.length d4), far5 (fun e => HQ5.out.2 e.symm) hHeld.2.1 (.int .i64 t.f0) (.bool t.f1) (.slice q2 t.f2.length d2) (.slice q3 t.f3.length d3) (.slice q4 t.f4.length d4), far5 (fun e => HQ5.out.2 e.symm) hHeld.2.2.1 (.int .i64 t.f0) (.bool t.f1) (.slice q2 t.f2.length d2) (.slice q3 t.f3.length d3) (.slice q4 t.f4.length d4), far5 (fun e => HQ5.out.2 e.symm) hHeld.2.2.2.1 (.int .i64 t.f0) (.bool t.f1) (.slice q2 t.f2.length d2) (.slice q3 t.f3.length d3) (.slice q4 t.f4.length d4), far5 (fun e => HQ5.out.2 e.symm) hHeld.2.2.2.2.1 (.int .i64 t.f0) (.bool t.f1) (.slice q2 t.f2.length d2) (.slice q3 t.f3.length d3) (.slice q4 t.f4.length d4), far5 (fun e => HQ5.out.2 e.symm) hHeld.2.2.2.2.2 (.int .i64 t.f0) (.bool t.f1) (.slice q2 t.f2.length d2) (.slice q3 t.f3.length d3) (.slice q4 t.f4.length d4)⟩ (fun hHeld => ?_)
        clear hK K
        refine pure_ (i := 10) (N := some 5) (v := ?_) (a' := ?_) #[true, true, true, true, true, true, true, true, true, true, true, false] rfl rfl (by kernel_rfl) (fun _ _ _ h => h) (Or.inl ⟨by rfl, ?_⟩) ?_ ?_
        rotate_left
        · intro w'
          go_simp
          with_reducible rfl
        rotate_left
        · simp only [Act.put, List.setIfInBounds_toArray, List.set_cons_zero, List.set_cons_succ]
          rfl
        refine pure_ (i := 11) (N := some 6) (v := ?_) (a' := ?_) #[true, true, true, true, true, true, true, true, true, true, true, true] rfl rfl (by kernel_rfl) (fun _ _ _ h => h) (Or.inl ⟨by rfl, ?_⟩) ?_ ?_
        rotate_left
        · intro w'
          go_simp
          with_reducible rfl
        rotate_left
        · simp only [Act.put, List.setIfInBounds_toArray, List.set_cons_zero, List.set_cons_succ]
          rfl
        refine done_ (by kernel_rfl) ?_
        go_wp2_with fail
        have hbs := box_same HXd.out.bx (.int .i64 t.f0) (.bool t.f1) (.slice q2 t.f2.length d2) (.slice q3 t.f3.length d3) (.slice q4 t.f4.length d4)
        have hro := rread_out HXd.out (.int .i64 t.f0) (.bool t.f1) (.slice q2 t.f2.length d2) (.slice q3 t.f3.length d3) (.slice q4 t.f4.length d4)
        refine bodyPost_ret (results_c2 rfl _ _ p 26 _ (0, 0) _ rfl hbs Try.underlying26 rfl (by kernel_rfl)) rfl ?_
        have hrp := rread_post HTT.out (KF_five (w := w) HMd.out HS34.out.2.2 HS34.out.1) HG4.out hro
        simp only at hrp
        rw [← HSUB.out] at hrp
        exact hrp
      · have hb2 : (k != 0) = true := by simpa using hk0
        have HXe := HX7
        obtain ⟨Ar, cr, hblk, -, -⟩ := HXe.out.rd.blk
        obtain ⟨⟨pr, pe, -⟩, -, fe, -⟩ := cells3 hblk
        clear hblk
        clear fe
        have HXd := Aside0.mk (HXe.out.below (below_drew (Below.refl _ w7)))
        have HTT : Aside0 (T = (z0, 0, k)) := ⟨by rw [HRS2.out]; unfold readT; rw [if_neg (fun h => h h0), if_neg (fun h => h1 h.2), if_pos (by rw [HK9.out]; exact hk0), HK9.out]⟩
        have HPE : Aside0 (w7.cell? ⟨g, 1, none⟩ = some (.int .i64 k)) := ⟨pe⟩
        go_upto_region 9 with fail
        clear pe pr
        refine start_ (n := 8) (S := fun w' => w'.cell? ⟨g, 1, none⟩ = some (.int .i64 k)) (ds := []) #[false, false, false, false, false, false, false, false] (by kernel_rfl) rfl rfl HPE.out (fun hHeld => ?_)
        obtain ⟨wz, hwz⟩ : ∃ q, w7.drew = q := ⟨_, rfl⟩
        rw [hwz] at HXd hHeld ⊢
        clear hwz
        refine pure_ (i := 0) (N := some 51) (v := ?_) (a' := ?_) #[true, false, false, false, false, false, false, false] rfl rfl (by kernel_rfl) (fun _ _ _ h => h) (Or.inl ⟨by rfl, ?_⟩) ?_ ?_
        rotate_left
        · intro w'
          go_simp
          with_reducible rfl
        rotate_left
        · simp only [Act.put, List.setIfInBounds_toArray, List.set_cons_zero, List.set_cons_succ]
          rfl
        refine pure_ (i := 1) (N := some 52) (v := ?_) (a' := ?_) #[true, true, false, false, false, false, false, false] rfl rfl (by kernel_rfl) (fun _ _ _ h => h) (Or.inl ⟨by rfl, ?_⟩) ?_ ?_
        rotate_left
        · intro w'
          go_simp
          with_reducible rfl
        rotate_left
        · simp only [Act.put, List.setIfInBounds_toArray, List.set_cons_zero, List.set_cons_succ]
          rfl
        refine pure_ (i := 2) (N := some 53) (v := ?_) (a' := ?_) #[true, true, true, false, false, false, false, false] rfl rfl (by kernel_rfl) (fun _ _ _ h => h) (Or.inl ⟨by rfl, ?_⟩) ?_ ?_
        rotate_left
        · intro w'
          go_simp
          with_reducible rfl
        rotate_left
        · simp only [Act.put, List.setIfInBounds_toArray, List.set_cons_zero, List.set_cons_succ]
          rfl
        refine pure_ (i := 3) (N := some 54) (v := ?_) (a' := ?_) #[true, true, true, true, false, false, false, false] rfl rfl (by kernel_rfl) (fun _ _ _ h => h) (Or.inl ⟨by rfl, ?_⟩) ?_ ?_
        rotate_left
        · intro w'
          go_simp
          with_reducible rfl
        rotate_left
        · simp only [Act.put, List.setIfInBounds_toArray, List.set_cons_zero, List.set_cons_succ]
          rfl
        refine take_ (i := 4) (N := some 55) (v := ?_) (a' := ?_) #[true, true, true, true, true, false, false, false] rfl rfl (by kernel_rfl) (fun _ _ _ h => h) (Or.inl ⟨by rfl, ?_⟩) hHeld ?_ ?_
        rotate_left
        · rintro w' s0
          go_simp
          with_reducible rfl
        rotate_left
        · simp only [Act.put, List.setIfInBounds_toArray, List.set_cons_zero, List.set_cons_succ]
          rfl
        obtain ⟨b0, b1, b2, b3, b4⟩ := cells5 HXd.out.bx
        have f0 := blk_frozen HXd.out.bx 0
        have f1 := blk_frozen HXd.out.bx 1
        have f2 := blk_frozen HXd.out.bx 2
        have f3 := blk_frozen HXd.out.bx 3
        have f4 := blk_frozen HXd.out.bx 4
        refine one_ (i := 5) (N := none) #[true, true, true, true, true, true, false, false] rfl rfl (by kernel_rfl) (by decide) (fun K hK => ?_)
        go_simp
        refine hK.out _ _ (far5 HXd.out.gp hHeld (.int .i64 0) (.bool false) (.slice none 0 0) (.slice none 0 0) (.slice none 0 0)) (fun hHeld => ?_)
        clear hK K
        refine pure_ (i := 6) (N := some 5) (v := ?_) (a' := ?_) #[true, true, true, true, true, true, true, false] rfl rfl (by kernel_rfl) (fun _ _ _ h => h) (Or.inl ⟨by rfl, ?_⟩) ?_ ?_
        rotate_left
        · intro w'
          go_simp
          with_reducible rfl
        rotate_left
        · simp only [Act.put, List.setIfInBounds_toArray, List.set_cons_zero, List.set_cons_succ]
          rfl
        refine pure_ (i := 7) (N := some 6) (v := ?_) (a' := ?_) #[true, true, true, true, true, true, true, true] rfl rfl (by kernel_rfl) (fun _ _ _ h => h) (Or.inl ⟨by rfl, ?_⟩) ?_ ?_
        rotate_left
        · intro w'
          go_simp
          with_reducible rfl
        rotate_left
        · simp only [Act.put, List.setIfInBounds_toArray, List.set_cons_zero, List.set_cons_succ]
          rfl
        refine done_ (by kernel_rfl) ?_
        go_wp2_with fail
        have hbs := box_same HXd.out.bx (.int .i64 0) (.bool false) (.slice none 0 0) (.slice none 0 0) (.slice none 0 0)
        have hro := rread_out HXd.out (.int .i64 0) (.bool false) (.slice none 0 0) (.slice none 0 0) (.slice none 0 0)
        refine bodyPost_ret (results_c2 rfl _ _ p 26 _ (0, 0) _ rfl hbs Try.underlying26 rfl (by kernel_rfl)) rfl ?_
        exact rread_post HTT.out (z0_K _ _) (GT_z0 64) hro
  · have hb1 : (s4.2 == 0) = false := by simpa using h0
    have hb2 : (s4.2 != 0) = true := by simpa using h0
    obtain ⟨Ar, cr, hblk, -, -⟩ := HX5.out.rd.blk
    obtain ⟨⟨pr, pe, -⟩, -, fe, -⟩ := cells3 hblk
    clear hblk
    clear pr pe fe
    have HXe := HX5
    obtain ⟨Ar, cr, hblk, -, -⟩ := HXe.out.rd.blk
    obtain ⟨⟨pr, pe, -⟩, -, fe, -⟩ := cells3 hblk
    clear hblk
    clear fe
    have HXd := Aside0.mk (HXe.out.below (below_drew (Below.refl _ w5)))
    have HTT : Aside0 (T = (z0, 0, s4.2)) := ⟨by rw [HRS2.out]; unfold readT; rw [if_pos h0]⟩
    have HPE : Aside0 (w5.cell? ⟨g, 1, none⟩ = some (.int .i64 s4.2)) := ⟨pe⟩
    go_upto_region 9 with fail
    clear pe pr
    refine start_ (n := 8) (S := fun w' => w'.cell? ⟨g, 1, none⟩ = some (.int .i64 s4.2)) (ds := []) #[false, false, false, false, false, false, false, false] (by kernel_rfl) rfl rfl HPE.out (fun hHeld => ?_)
    obtain ⟨wz, hwz⟩ : ∃ q, w5.drew = q := ⟨_, rfl⟩
    rw [hwz] at HXd hHeld ⊢
    clear hwz
    refine pure_ (i := 0) (N := some 51) (v := ?_) (a' := ?_) #[true, false, false, false, false, false, false, false] rfl rfl (by kernel_rfl) (fun _ _ _ h => h) (Or.inl ⟨by rfl, ?_⟩) ?_ ?_
    rotate_left
    · intro w'
      go_simp
      with_reducible rfl
    rotate_left
    · simp only [Act.put, List.setIfInBounds_toArray, List.set_cons_zero, List.set_cons_succ]
      rfl
    refine pure_ (i := 1) (N := some 52) (v := ?_) (a' := ?_) #[true, true, false, false, false, false, false, false] rfl rfl (by kernel_rfl) (fun _ _ _ h => h) (Or.inl ⟨by rfl, ?_⟩) ?_ ?_
    rotate_left
    · intro w'
      go_simp
      with_reducible rfl
    rotate_left
    · simp only [Act.put, List.setIfInBounds_toArray, List.set_cons_zero, List.set_cons_succ]
      rfl
    refine pure_ (i := 2) (N := some 53) (v := ?_) (a' := ?_) #[true, true, true, false, false, false, false, false] rfl rfl (by kernel_rfl) (fun _ _ _ h => h) (Or.inl ⟨by rfl, ?_⟩) ?_ ?_
    rotate_left
    · intro w'
      go_simp
      with_reducible rfl
    rotate_left
    · simp only [Act.put, List.setIfInBounds_toArray, List.set_cons_zero, List.set_cons_succ]
      rfl
    refine pure_ (i := 3) (N := some 54) (v := ?_) (a' := ?_) #[true, true, true, true, false, false, false, false] rfl rfl (by kernel_rfl) (fun _ _ _ h => h) (Or.inl ⟨by rfl, ?_⟩) ?_ ?_
    rotate_left
    · intro w'
      go_simp
      with_reducible rfl
    rotate_left
    · simp only [Act.put, List.setIfInBounds_toArray, List.set_cons_zero, List.set_cons_succ]
      rfl
    refine take_ (i := 4) (N := some 55) (v := ?_) (a' := ?_) #[true, true, true, true, true, false, false, false] rfl rfl (by kernel_rfl) (fun _ _ _ h => h) (Or.inl ⟨by rfl, ?_⟩) hHeld ?_ ?_
    rotate_left
    · rintro w' s0
      go_simp
      with_reducible rfl
    rotate_left
    · simp only [Act.put, List.setIfInBounds_toArray, List.set_cons_zero, List.set_cons_succ]
      rfl
    obtain ⟨b0, b1, b2, b3, b4⟩ := cells5 HXd.out.bx
    have f0 := blk_frozen HXd.out.bx 0
    have f1 := blk_frozen HXd.out.bx 1
    have f2 := blk_frozen HXd.out.bx 2
    have f3 := blk_frozen HXd.out.bx 3
    have f4 := blk_frozen HXd.out.bx 4
    refine one_ (i := 5) (N := none) #[true, true, true, true, true, true, false, false] rfl rfl (by kernel_rfl) (by decide) (fun K hK => ?_)
    go_simp
    refine hK.out _ _ (far5 HXd.out.gp hHeld (.int .i64 0) (.bool false) (.slice none 0 0) (.slice none 0 0) (.slice none 0 0)) (fun hHeld => ?_)
    clear hK K
    refine pure_ (i := 6) (N := some 5) (v := ?_) (a' := ?_) #[true, true, true, true, true, true, true, false] rfl rfl (by kernel_rfl) (fun _ _ _ h => h) (Or.inl ⟨by rfl, ?_⟩) ?_ ?_
    rotate_left
    · intro w'
      go_simp
      with_reducible rfl
    rotate_left
    · simp only [Act.put, List.setIfInBounds_toArray, List.set_cons_zero, List.set_cons_succ]
      rfl
    refine pure_ (i := 7) (N := some 6) (v := ?_) (a' := ?_) #[true, true, true, true, true, true, true, true] rfl rfl (by kernel_rfl) (fun _ _ _ h => h) (Or.inl ⟨by rfl, ?_⟩) ?_ ?_
    rotate_left
    · intro w'
      go_simp
      with_reducible rfl
    rotate_left
    · simp only [Act.put, List.setIfInBounds_toArray, List.set_cons_zero, List.set_cons_succ]
      rfl
    refine done_ (by kernel_rfl) ?_
    go_wp2_with fail
    have hbs := box_same HXd.out.bx (.int .i64 0) (.bool false) (.slice none 0 0) (.slice none 0 0) (.slice none 0 0)
    have hro := rread_out HXd.out (.int .i64 0) (.bool false) (.slice none 0 0) (.slice none 0 0) (.slice none 0 0)
    refine bodyPost_ret (results_c2 rfl _ _ p 26 _ (0, 0) _ rfl hbs Try.underlying26 rfl (by kernel_rfl)) rfl ?_
    exact rread_post HTT.out (z0_K _ _) (GT_z0 64) hro
set_option maxRecDepth 20000 in
set_option maxHeartbeats 4000000 in
theorem RDecode_any (A : Option Addr) (c : Nat) (b : List Int) (w : World) (hC : (Kd.int .u8).C w A b.length b) (hc : b.length ≤ c) (h8 : B8 b) (hl : b.length ≤ 1073741824) :
    Calls Try.prog 17 #[.slice A b.length c] w fun e w' => ∃ cs, e = .returned (.tuple #[.agg cs, .int .i64 (readS b true).2.2]) ∧ KB w w' (readS b true).1 cs.toList ∧ GT 65 (readS b true).1 ∧ Below w.heap.size w w' := by
  have hwb := below_alloc (Below.refl w.heap.size w) (.cells #[.int .i64 0, .bool false, .slice none 0 0, .slice none 0 0, .slice none 0 0] 26)
  have HP1 := Aside0.mk (heap_alloc_new w (.cells #[.int .i64 0, .bool false, .slice none 0 0, .slice none 0 0, .slice none 0 0] 26))
  have HB1 := Aside0.mk hwb
  have HRD := Aside0.mk (rread_any A c b false (w.alloc (.cells #[.int .i64 0, .bool false, .slice none 0 0, .slice none 0 0, .slice none 0 0] 26)) (Kd.C_below hC hwb) hc h8 hl)
  clear hwb hC h8
  rw [show (!false) = true from rfl] at HRD
  obtain ⟨T, hT⟩ : ∃ q, readS b true = q := ⟨_, rfl⟩
  rw [hT] at HRD ⊢
  clear hT
  go_enter Try.func17, Try.ntmps17
  go_upto_region 1 with fail
  generalize (w.alloc (.cells #[.int .i64 0, .bool false, .slice none 0 0, .slice none 0 0, .slice none 0 0] 26)) = w1 at *
  obtain ⟨p, hp⟩ : ∃ q, w.heap.size = q := ⟨_, rfl⟩
  rw [hp] at HP1 ⊢
  have HP : Aside0 (w.heap.size = p) := ⟨hp⟩
  clear hp
  go_wp2_with fail
  refine HRD.out.mono ?_
  rintro e_ w2 ⟨cs, rfl, hM, hG, hb⟩
  obtain ⟨t, n, k⟩ := T
  simp only at hM hG ⊢
  obtain ⟨q2, d2, q3, d3, q4, d4, hcs, -⟩ := k26_open (hM w2 (fun _ _ => rfl))
  obtain ⟨cs, rfl⟩ : ∃ l : List Value, cs = l.toArray := ⟨cs.toList, by simp⟩
  simp only [List.toList_toArray] at hcs hM
  subst hcs
  have HM2 : Aside0 (KB w1 w2 t _) := ⟨hM⟩
  have HG2 := Aside0.mk hG
  have HP2 := Aside0.mk ((hb.block _ (blk_lt HP1.out)).trans HP1.out)
  have HB2 := Aside0.mk (below_then HB1.out HB1.out.size hb)
  have HLO : Aside0 (p < w1.heap.size ∧ w.heap.size ≤ w1.heap.size) := ⟨blk_lt HP1.out, HB1.out.size⟩
  clear hM hG hb HRD HP1
  have hb3 := below_alloc (Below.refl w2.heap.size w2) (.cells #[.int .i64 t.f0, .bool t.f1, .slice q2 t.f2.length d2, .slice q3 t.f3.length d3, .slice q4 t.f4.length d4] 26)
  have HT3 := Aside0.mk (heap_alloc_new w2 (.cells #[.int .i64 t.f0, .bool t.f1, .slice q2 t.f2.length d2, .slice q3 t.f3.length d3, .slice q4 t.f4.length d4] 26))
  have HP3 := Aside0.mk ((hb3.block _ (blk_lt HP2.out)).trans HP2.out)
  have HB3 := Aside0.mk (below_then HB2.out HB2.out.size hb3)
  have HM3 := Aside0.mk (KB.below HM2.out hb3)
  clear hb3
  go_upto_region 2 with fail
  generalize (w2.alloc (.cells #[.int .i64 t.f0, .bool t.f1, .slice q2 t.f2.length d2, .slice q3 t.f3.length d3, .slice q4 t.f4.length d4] 26)) = w3 at *
  obtain ⟨tb, htb⟩ : ∃ q, w2.heap.size = q := ⟨_, rfl⟩
  rw [htb] at HT3 ⊢
  clear htb HP2 HB2 HM2
  obtain ⟨x0, x1, x2, x3, x4⟩ := cells5 HT3.out
  obtain ⟨b0, b1, b2, b3, b4⟩ := cells5 HP3.out
  have f0 := blk_frozen HP3.out 0
  have f1 := blk_frozen HP3.out 1
  have f2 := blk_frozen HP3.out 2
  have f3 := blk_frozen HP3.out 3
  have f4 := blk_frozen HP3.out 4
  go_wp2_with fail
  have hbs := box_same HP3.out (.int .i64 t.f0) (.bool t.f1) (.slice q2 t.f2.length d2) (.slice q3 t.f3.length d3) (.slice q4 t.f4.length d4)
  have hlp : w.heap.size ≤ p := by rw [HP.out]; exact Nat.le_refl _
  refine bodyPost_ret (results_c1 rfl _ _ p 26 _ (0, 0) _ rfl hbs Try.underlying26 rfl (by kernel_rfl)) rfl ?_
  exact rdec_post (KF_five (w := w) HM3.out HLO.out.1 HLO.out.2) HG2.out (below_set (below_set (below_set (below_set (below_set HB3.out hlp) hlp) hlp) hlp) hlp)
set_option maxRecDepth 20000 in
set_option maxHeartbeats 4000000 in
theorem RSplit_any (A : Option Addr) (c : Nat) (b : List Int) (w : World) (hC : (Kd.int .u8).C w A b.length b) (hc : b.length ≤ c) (h8 : B8 b) (hl : b.length ≤ 1073741824) :
    Calls Try.prog 21 #[.slice A b.length c] w fun e w' => e = .returned (.tuple #[.int .i64 ((readS b false).2.1 : Int), .int .i64 (readS b false).2.2]) ∧ Below w.heap.size w w' := by
  have HRD := Aside0.mk (rread_any A c b true w hC hc h8 hl)
  clear hC h8
  rw [show (!true) = false from rfl] at HRD
  obtain ⟨T, hT⟩ : ∃ q, readS b false = q := ⟨_, rfl⟩
  rw [hT] at HRD ⊢
  clear hT
  go_enter Try.func21, Try.ntmps21
  go_wp2_with fail
  refine HRD.out.mono ?_
  rintro e_ w2 ⟨cs, rfl, hM, hG, hb⟩
  obtain ⟨t, n, k⟩ := T
  simp only at hM hG ⊢
  obtain ⟨q2, d2, q3, d3, q4, d4, hcs, -⟩ := k26_open (hM w2 (fun _ _ => rfl))
  obtain ⟨cs, rfl⟩ : ∃ l : List Value, cs = l.toArray := ⟨cs.toList, by simp⟩
  simp only [List.toList_toArray] at hcs hM
  subst hcs
  have HB2 := Aside0.mk (below_then hb hb.size (below_alloc (Below.refl w2.heap.size w2) (.cells #[.int .i64 t.f0, .bool t.f1, .slice q2 t.f2.length d2, .slice q3 t.f3.length d3, .slice q4 t.f4.length d4] 26)))
  clear hM hG hb HRD
  go_wp2_with fail
  exact bodyPost_ret (v := .tuple #[.int .i64 (n : Int), .int .i64 k]) (by simp [results, Try.results21, go_sem]) rfl ⟨rfl, HB2.out⟩
end Go.Proofs.Ythhajkmeadapgaa.Tree
