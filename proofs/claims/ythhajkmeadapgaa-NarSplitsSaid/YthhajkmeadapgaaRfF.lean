/- nar's reference: node walked, a directory. Own work; printed by gen_rfd.py. -/
import Derived.Test.YthhajkmeadapgaaRfD
namespace Go.Proofs.Ythhajkmeadapgaa.Tree
set_option linter.unusedVariables false
set_option linter.unusedSimpArgs false
open Go.RowKit Go.Proofs.Ythhajkmeadapgaa.PL Go.Proofs.Ythhajkmeadapgaa.Mn Go.Proofs.YthhajkmeadapgaaW.PrintWords Go.Proofs.YthhajkmeadapgaaW.PrintLast Go.Proofs.YthhajkmeadapgaaW.PrintMore
theorem RR.len {w0 w : World} {g : Nat} {s : RS} {n : Nat} (h : RR w0 w g s n) : restLen w g = s.1.length := by
  obtain ⟨A, c, h1, -, -⟩ := h.blk
  unfold restLen
  rw [(blk_cell h1 0).trans rfl]
  rfl
set_option maxRecDepth 20000 in
set_option maxHeartbeats 4000000 in
theorem rnode_dir (w0 : World) (g F : Nat) (deep : Nat) (s : RS) (n : Nat) (w : World) (hd : deep + F = 65) (hR : RR w0 w g s n) (hl : s.1.length ≤ 1073741824) (hn : n + s.1.length ≤ 1099511627776) (ih : NRC w0 g F) (hs : s.2 = 0) (hq : ¬ (65536 < n + 1 ∨ 64 < deep)) (hdd : (txS (wdS s [sL, sType])).1 = bytesOf sDir ∧ (txS (wdS s [sL, sType])).2.2 = 0) :
    Calls Try.prog 50 #[.pointer (some ⟨g, 0, none⟩), .int .i64 (deep : Int)] w (NRP w0 w g (F + 1) (nodeR (F + 1) deep (s, n))) := by
  have IH := Aside0.mk ih
  have HDD := Aside0.mk hdd
  clear ih hdd
  obtain ⟨T, hT⟩ : ∃ q, nodeR (F + 1) deep (s, n) = q := ⟨_, rfl⟩
  rw [hT]
  have HT := Aside0.mk hT
  clear hT
  have hgl : g < w.heap.size := by obtain ⟨A, c, h1, -, -⟩ := hR.blk; exact blk_lt h1
  have HP1 : Aside0 (BR w0 w (w.alloc (.cells #[.int .i64 0, .bool false, .slice none 0 0, .slice none 0 0, .slice none 0 0] 26)) g w.heap.size s n #[.int .i64 0, .bool false, .slice none 0 0, .slice none 0 0, .slice none 0 0]) :=
    ⟨⟨hR.keep (below_alloc (Below.refl _ w) _), heap_alloc_new w _, KeepBut.of_below (below_alloc (Below.refl _ w) _) g none, by omega, Nat.le_refl _, hgl⟩⟩
  have hgo := hq
  have hn1 : decide ((n : Int) + 1 > 65536) = false := decide_eq_false (fun h => hq (.inl (by omega)))
  have hd1 : decide ((deep : Int) > 64) = false := decide_eq_false (fun h => hq (.inr (by omega)))
  clear hq
  clear hR hgl
  go_enter Try.func50, Try.ntmps50
  go_upto_region 1 with fail
  generalize (w.alloc (.cells #[.int .i64 0, .bool false, .slice none 0 0, .slice none 0 0, .slice none 0 0] 26)) = w1 at *
  obtain ⟨p, hp⟩ : ∃ q, w.heap.size = q := ⟨_, rfl⟩
  rw [hp] at HP1 ⊢
  have HP : Aside0 (w.heap.size = p) := ⟨hp⟩
  clear hp
  obtain ⟨A, c, hblk, hc, hC⟩ := HP1.out.rd.blk
  obtain ⟨⟨p0, p1, p2⟩, q0, q1, q2⟩ := cells3 hblk
  have he : (s.2 != 0) = false := by simp [hs]
  have hst : RR w0 (w1.setCell ⟨g, 2, none⟩ (.int .i64 ((n : Int) + 1))) g s (n + 1) := ⟨⟨A, c, by simpa using blk_set hblk 2 (.int .i64 ((n : Int) + 1)), hc, hC⟩, below_set HP1.out.rd.b HP1.out.rd.lo, HP1.out.rd.lo, HP1.out.rd.b8⟩
  have HB := Aside0.mk (And.intro hst (KeepBut.set_ (KeepBut.refl w1 g none) 2 (.int .i64 ((n : Int) + 1))))
  clear hst hblk hc hC
  go_upto_region 4 with fail
  clear p0 p1 p2 q0 q1 q2 he
  generalize (w1.setCell ⟨g, 2, none⟩ (.int .i64 ((n : Int) + 1))) = w2 at *
  obtain ⟨Ar, cr, hblk, -, -⟩ := HB.out.1.blk
  obtain ⟨⟨-, pe, pn⟩, -, qe, -⟩ := cells3 hblk
  rw [show (((n + 1 : Nat)) : Int) = (n : Int) + 1 from by omega] at pn
  clear hblk pe qe
  have HG1 : Aside0 (g < w1.heap.size) := ⟨by have := HP1.out.lg; have := HP1.out.kp.1; omega⟩
  have HPL : Aside0 (p < w1.heap.size ∧ w.heap.size ≤ w1.heap.size) := ⟨blk_lt HP1.out.bx, HP1.out.kp.1⟩
  go_wp2_with fail
  refine (must_any w0 w2 g s (n + 1) sL HB.out.1 (by omega)).mono ?_
  rintro e_ w3 ⟨rfl, hr, hk⟩
  have HBn := Aside0.mk (And.intro hr (HB.out.2.trans hk (.inl rfl)))
  clear HB hr hk
  have HB := HBn
  clear HBn
  have hlsa := wd1_len s sL
  obtain ⟨sa, hs9⟩ : ∃ q, wd1 s sL = q := ⟨_, rfl⟩
  have HSsa := Aside0.mk hs9
  rw [hs9] at HB hlsa
  clear hs9
  clear pn
  go_wp2_with fail
  refine (must_any w0 w3 g sa (n + 1) sType HB.out.1 (by omega)).mono ?_
  rintro e_ w4 ⟨rfl, hr, hk⟩
  have HBn := Aside0.mk (And.intro hr (HB.out.2.trans hk (.inl rfl)))
  clear HB hr hk
  have HB := HBn
  clear HBn
  have hlsb := wd1_len sa sType
  obtain ⟨sb, hs9⟩ : ∃ q, wd1 sa sType = q := ⟨_, rfl⟩
  have HSsb := Aside0.mk hs9
  rw [hs9] at HB hlsb
  clear hs9
  have HSW : Aside0 (wdS s [sL, sType] = sb) := ⟨by rw [wdS_cons, HSsa.out, wdS_cons, HSsb.out]; rfl⟩
  go_wp2_with fail
  refine (rtext_any w0 w4 g sb (n + 1) HB.out.1 (by omega)).mono ?_
  rintro e_ w5 ⟨rfl, hr, hk, h8⟩
  have HBn := Aside0.mk (And.intro hr (HB.out.2.trans hk (.inl rfl)))
  clear HB hr hk
  have HB := HBn
  clear HBn
  have hlenk := txS_len sb
  obtain ⟨lk, hl1⟩ : ∃ q, (txS sb).1 = q := ⟨_, rfl⟩
  obtain ⟨sk, hs1⟩ : ∃ q, (txS sb).2 = q := ⟨_, rfl⟩
  have HSk : Aside0 (txS sb = (lk, sk)) := ⟨by rw [← hl1, ← hs1]⟩
  rw [hl1] at h8 hlenk ⊢
  rw [hs1] at HB hlenk
  have HXk := Aside0.mk h8
  clear hl1 hs1 h8
  have HTQ := Aside0.mk (HT.out.symm.trans (nodeR_go (F := F) (deep := deep) (n := n) (l := lk) (q := sk) hs hgo (by rw [HSW.out]; exact HSk.out)))
  have HB1 := Aside0.mk HB.out.1
  have HBq : Aside0 (BR w0 w1 (w5.alloc (.cells #[.int .i64 0, .bool false, .slice none 0 0, .slice none 0 0, .slice none 0 0] 26)) g w5.heap.size sk (n + 1) #[.int .i64 0, .bool false, .slice none 0 0, .slice none 0 0, .slice none 0 0]) := ⟨⟨HB.out.1.keep (below_alloc (Below.refl _ w5) _), heap_alloc_new w5 _, HB.out.2.trans (KeepBut.of_below (below_alloc (Below.refl _ w5) _) g none) (.inl rfl), by have := HG1.out; have := HB.out.2.1; omega, HB.out.2.1, HG1.out⟩⟩
  have hsik := fun (x : ByteArray) (L : List UInt8) (hL : x.data.toList = L) => str_lit HXk.out x L hL
  obtain ⟨yk, hy⟩ : ∃ q, strOfNums lk = q := ⟨_, rfl⟩
  rw [hy] at hsik ⊢
  clear hy
  go_upto_region 12 with fail
  clear HB HB1
  have HB := HBq
  clear HBq
  generalize (w5.alloc (.cells #[.int .i64 0, .bool false, .slice none 0 0, .slice none 0 0, .slice none 0 0] 26)) = w6 at *
  obtain ⟨q, hq9⟩ : ∃ q, w5.heap.size = q := ⟨_, rfl⟩
  rw [hq9] at HB ⊢
  clear hq9
  obtain ⟨Ar, cr, hblk, -, -⟩ := HB.out.rd.blk
  obtain ⟨⟨-, pe, -⟩, -, qe, -⟩ := cells3 hblk
  clear hblk
  have hk0 : sk.2 = 0 := by have := HDD.out.2; rw [HSW.out, HSk.out] at this; exact this
  have hdir : lk = bytesOf sDir := by have := HDD.out.1; rw [HSW.out, HSk.out] at this; exact this
  have hreg : lk ≠ bytesOf sReg := by rw [hdir]; decide
  have hsym : lk ≠ bytesOf sSym := by rw [hdir]; decide
  have hkb : (sk.2 != 0) = false := by simp [hk0]
  have hk1 : ¬ sk.2 ≠ 0 := fun h => h hk0
  have e_sReg : (yk.toList == [114, 101, 103, 117, 108, 97, 114]) = false := by simpa using fun h => hreg ((hsik sReg _ rfl).1 h)
  have e_sSym : (yk.toList == [115, 121, 109, 108, 105, 110, 107]) = false := by simpa using fun h => hsym ((hsik sSym _ rfl).1 h)
  have e_sDir : (yk.toList == [100, 105, 114, 101, 99, 116, 111, 114, 121]) = true := by rw [(hsik sDir _ rfl).2 hdir]; simp
  have HTB := Aside0.mk (HTQ.out.trans (by rw [if_neg hk1, if_neg hreg, if_neg hsym, if_pos hdir]))
  clear hreg hsym hdir HTQ hsik hk1
  obtain ⟨R, hR9⟩ : ∃ z, entS (nodeR F (deep + 1)) (sk.1.length + 1) (sk, n + 1) ([], []) = z := ⟨_, rfl⟩
  rw [hR9] at HTB
  have HRR := Aside0.mk hR9
  clear hR9
  have hfq := blk_frozen HB.out.bx 0
  have hcq := blk_cell HB.out.bx 0
  have HB7 : Aside0 (BR w0 w1 (w6.setCell ⟨q, 0, none⟩ (.int .i64 2)) g q sk (n + 1) #[.int .i64 2, .bool false, .slice none 0 0, .slice none 0 0, .slice none 0 0]) := ⟨by simpa using HB.out.set 0 (.int .i64 2)⟩
  clear HB
  go_wp2_with fail
  generalize (w6.setCell ⟨q, 0, none⟩ (.int .i64 2)) = w7 at *
  clear hfq hcq pe qe
  have HEN : Aside0 (ER w0 w7 w7 g q sk (n + 1) [] [] [] (.slice none 0 0) (.slice none 0 0)) := ⟨⟨HB7.out.rd, HB7.out.bx, Kd.R_nil _ _ _ _ _, Kd.R_nil _ _ _ _ _, rfl, fun j x c hx => by simp at hx, Kept.refl _ _, HB7.out.np, by have := HB7.out.lg; have := HB7.out.kp.1; omega, blk_lt HB7.out.bx⟩⟩
  have HW0 : Aside0 (w0.heap.size ≤ w7.heap.size ∧ w0.heap.size ≤ q) := ⟨by have := HB7.out.lp; have := HB7.out.lg; have := HB7.out.rd.lo; have := HB7.out.kp.1; omega⟩
  go_loopw [5] (fun v wr => ∃ (s' : RS) (n' L : Nat) (ns : List ByteArray) (ks : List S26) (css : List (List Value)) (v3 v4 : Value), Aside0 (ER w0 w7 wr g q s' n' ns ks css v3 v4) ∧ s'.1.length < L ∧ ns.length + s'.1.length ≤ 1073741824 ∧ ks.length = ns.length ∧ n' + s'.1.length ≤ 1099511627776 ∧ Aside0 (entS (nodeR F (deep + 1)) L (s', n') (ns, ks) = R) ∧ Aside0 ((∀ x ∈ ns, x.size ≤ 1073741824) ∧ ∀ u ∈ ks, GT F u)) (fun _ wr => restLen wr g)
  case atStart => exact ⟨sk, n + 1, sk.1.length + 1, [], [], [], _, _, HEN, Nat.lt_succ_self _, by simp; omega, rfl, by omega, HRR, ⟨⟨fun x hx => (by cases hx), fun x hx => (by cases hx)⟩⟩⟩
  case round =>
    clear HEN HRR
    obtain ⟨s', n', L, ns, ks, css, v3, v4, HEN, hL, hns, hks, hn', HRR, HGG⟩ := hrel
    obtain ⟨L, rfl⟩ : ∃ z, L = z + 1 := ⟨L - 1, by omega⟩
    have HRL := Aside0.mk HEN.out.rd.len
    obtain ⟨Ar, cr, hblk, -, -⟩ := HEN.out.rd.blk
    obtain ⟨⟨-, pe, -⟩, -, qe, -⟩ := cells3 hblk
    clear hblk
    by_cases h0 : s'.2 = 0
    · have e0 : (s'.2 == 0) = true := by simp [h0]
      go_wp2_with fail
      refine (rtext_any w0 wr g s' n' HEN.out.rd (by omega)).mono ?_
      rintro e_ wa ⟨rfl, hr, hk, h8⟩
      have HENn := Aside0.mk (HEN.out.keep hr hk)
      clear HEN hr hk
      have HEN := HENn
      clear HENn
      have hlent := txS_len s'
      have hfallt := @txS_fall s'
      obtain ⟨lt, hl1⟩ : ∃ q, (txS s').1 = q := ⟨_, rfl⟩
      obtain ⟨st, hs1⟩ : ∃ q, (txS s').2 = q := ⟨_, rfl⟩
      have HSt : Aside0 (txS s' = (lt, st)) := ⟨by rw [← hl1, ← hs1]⟩
      rw [hl1] at h8 hlent ⊢
      rw [hs1] at HEN hlent hfallt
      have HXt := Aside0.mk h8
      clear hl1 hs1 h8
      have hsit := fun (x : ByteArray) (L : List UInt8) (hL : x.data.toList = L) => str_lit HXt.out x L hL
      obtain ⟨yt, hy⟩ : ∃ q, strOfNums lt = q := ⟨_, rfl⟩
      rw [hy] at hsit ⊢
      clear hy
      clear pe qe e0
      obtain ⟨Ar, cr, hblk, -, -⟩ := HEN.out.rd.blk
      obtain ⟨⟨-, pe, -⟩, -, qe, -⟩ := cells3 hblk
      clear hblk
      by_cases ht0 : st.2 = 0
      · have et : (st.2 != 0) = false := by simp [ht0]
        have hfl := hfallt ht0
        by_cases htR : lt = bytesOf sR
        · have e_sR : (yt.toList == [41]) = true := by rw [(hsit sR _ rfl).2 htR]; simp
          obtain ⟨A3, c3, hv3⟩ := Kd.R_slice HEN.out.rn
          obtain ⟨A4, c4, hv4⟩ := Kd.R_slice HEN.out.rk
          subst hv3 hv4
          have HTF : Aside0 (T = (⟨2, false, [], ns, ks⟩, st, n')) := ⟨HTB.out.trans (by rw [← HRR.out, entS_end h0 (by rw [HSt.out, htR])])⟩
          have HB : Aside0 (BR w0 w1 wa g q st n' #[.int .i64 2, .bool false, .slice none 0 0, .slice A3 ns.length c3, .slice A4 css.length c4]) := ⟨⟨HEN.out.rd, HEN.out.bx, kept_but HB7.out.kp HEN.out.kp HB7.out.lp, HB7.out.np, HB7.out.lp, HB7.out.lg⟩⟩
          have HKT := Aside0.mk (HEN.out.tree.mono (D' := fun k => w1.heap.size ≤ k ∧ k < wa.heap.size) (fun k hk => ⟨Nat.le_trans HB7.out.kp.1 hk.1, hk.2⟩))
          have HGT : Aside0 (GT (F + 1) ⟨2, false, [], ns, ks⟩) := ⟨⟨by show (Lit.int .i64 2).wf = true; decide, ⟨by simp, by simp, fun x h => by cases h⟩, ⟨by show ns.length ≤ maxLen; simp [maxLen]; omega, by show ns.length * 16 ≤ _; omega, fun s h => Nat.le_trans (HGG.out.1 s h) (by decide)⟩, by show ks.length ≤ maxLen; simp [maxLen]; omega, by show ks.length * 88 ≤ _; omega, HGG.out.2⟩⟩
          clear HEN
          obtain ⟨x0, x1, x2, x3, x4⟩ := cells5 HB.out.bx
          have HTT := Aside0.mk (HTF.out)
          have HE := Aside0.mk (BR.fin HP1.out HB.out)
          obtain ⟨b0, b1, b2, b3, b4⟩ := cells5 HE.out.bx
          have f0 := blk_frozen HE.out.bx 0
          have f1 := blk_frozen HE.out.bx 1
          have f2 := blk_frozen HE.out.bx 2
          have f3 := blk_frozen HE.out.bx 3
          have f4 := blk_frozen HE.out.bx 4
          have HF := Aside0.mk (HE.out.same (.int .i64 2) (.bool false) (.slice none 0 0) (.slice A3 ns.length c3) (.slice A4 css.length c4))
          have HKF := Aside0.mk (KF_five (a := (.int .i64 2)) (b := (.bool false)) (c := (.slice none 0 0)) (d := (.slice A3 ns.length c3)) (e := (.slice A4 css.length c4)) (p := p) (w := w) (HKT.out) HPL.out.1 HPL.out.2)
          have HG := Aside0.mk (HGT.out)
          go_wp2_with fail
          exact bodyPost_ret (results_cell_row rfl _ _ p 26 _ (0, 0) _ rfl HF.out.bx Try.underlying26 rfl (by kernel_rfl)) rfl (NR_post HTT.out HKF.out HG.out HF.out.rd HF.out.kp)
        · by_cases htE : lt = bytesOf sEntry
          · have e_sR : (yt.toList == [41]) = false := by simpa using fun h => htR ((hsit sR _ rfl).1 h)
            have e_sEntry : (yt.toList == [101, 110, 116, 114, 121]) = true := by rw [(hsit sEntry _ rfl).2 htE]; simp
            have htE9 := Aside0.mk htE
            go_wp2_with fail
            refine (must_any w0 wa g st n' sL HEN.out.rd (by omega)).mono ?_
            rintro e_ wb ⟨rfl, hr, hk⟩
            have HENn := Aside0.mk (HEN.out.keep hr hk)
            clear HEN hr hk
            have HEN := HENn
            clear HENn
            have hlsa9 := wd1_len st sL
            obtain ⟨sa9, hs9⟩ : ∃ q, wd1 st sL = q := ⟨_, rfl⟩
            have HSsa9 := Aside0.mk hs9
            rw [hs9] at HEN hlsa9
            clear hs9
            clear pe qe
            go_wp2_with fail
            refine (must_any w0 wb g sa9 n' sName HEN.out.rd (by omega)).mono ?_
            rintro e_ wc ⟨rfl, hr, hk⟩
            have HENn := Aside0.mk (HEN.out.keep hr hk)
            clear HEN hr hk
            have HEN := HENn
            clear HENn
            have hlsb9 := wd1_len sa9 sName
            obtain ⟨sb9, hs9⟩ : ∃ q, wd1 sa9 sName = q := ⟨_, rfl⟩
            have HSsb9 := Aside0.mk hs9
            rw [hs9] at HEN hlsb9
            clear hs9
            go_wp2_with fail
            refine (rtext_any w0 wc g sb9 n' HEN.out.rd (by omega)).mono ?_
            rintro e_ wd ⟨rfl, hr, hk, h8⟩
            have HENn := Aside0.mk (HEN.out.keep hr hk)
            clear HEN hr hk
            have HEN := HENn
            clear HENn
            have hlenm := txS_len sb9
            have hfallm := @txS_fall sb9
            obtain ⟨lm, hl1⟩ : ∃ q, (txS sb9).1 = q := ⟨_, rfl⟩
            obtain ⟨sm, hs1⟩ : ∃ q, (txS sb9).2 = q := ⟨_, rfl⟩
            have HSm : Aside0 (txS sb9 = (lm, sm)) := ⟨by rw [← hl1, ← hs1]⟩
            rw [hl1] at h8 hlenm ⊢
            rw [hs1] at HEN hlenm hfallm
            have HXm := Aside0.mk h8
            clear hl1 hs1 h8
            have hnsz : (strOfNums lm).size = lm.length := strOfNums_len lm
            obtain ⟨nm, hnm⟩ : ∃ q, strOfNums lm = q := ⟨_, rfl⟩
            rw [hnm] at hnsz ⊢
            have HNM := Aside0.mk hnm
            clear hnm
            go_wp2_with fail
            refine (must_any w0 wd g sm n' sNode HEN.out.rd (by omega)).mono ?_
            rintro e_ we ⟨rfl, hr, hk⟩
            have HENn := Aside0.mk (HEN.out.keep hr hk)
            clear HEN hr hk
            have HEN := HENn
            clear HENn
            have hlsc9 := wd1_len sm sNode
            obtain ⟨sc9, hs9⟩ : ∃ q, wd1 sm sNode = q := ⟨_, rfl⟩
            have HSsc9 := Aside0.mk hs9
            rw [hs9] at HEN hlsc9
            clear hs9
            have H34 : Aside0 ((∀ k, v3.ownBlock = some k → k < we.heap.size) ∧ (∀ k, v4.ownBlock = some k → k < we.heap.size) ∧ w7.heap.size ≤ we.heap.size) := ⟨⟨fun k hk => (R_own HEN.out.rn k hk).2, fun k hk => (R_own HEN.out.rk k hk).2, HEN.out.kp.1⟩⟩
            go_wp2_with fail
            have hdd : ((deep : Int) + 1) = ((deep + 1 : Nat) : Int) := by omega
            rw [hdd]
            refine (IH.out (deep + 1) sc9 n' we (by omega) HEN.out.rd (by omega) (by omega)).mono ?_
            rintro e_ wf ⟨cs, rfl, hKF, hG7, hr, hk⟩
            have HEN7 := Aside0.mk (HEN.out.keep hr hk)
            have hlen7 := nodeR_len F (deep + 1) (sc9, n')
            obtain ⟨kid, s7, n7, hN7⟩ : ∃ a b c, nodeR F (deep + 1) (sc9, n') = (a, b, c) := ⟨_, _, _, rfl⟩
            have HN7 := Aside0.mk hN7
            rw [hN7] at hKF hG7 HEN7 hlen7
            simp only at hKF hG7 HEN7 hlen7
            obtain ⟨a2, c2, a3, c3, a4, c4, hcs, -⟩ := k26_open (hKF wf (fun _ _ => rfl))
            obtain ⟨cs, rfl⟩ : ∃ l : List Value, cs = l.toArray := ⟨cs.toList, by simp⟩
            simp only [List.toList_toArray] at hcs hKF
            subst hcs
            have HG7 := Aside0.mk hG7
            have HP7 := Aside0.mk (PK.mk (w := w7) (v3 := v3) (v4 := v4) H34.out.2.2 hk.1 (Nat.le_refl _) hKF (fun k hk => .inl (H34.out.1 k hk)) (fun k hk => .inl (H34.out.2.1 k hk)))
            clear hN7 hKF hG7 hr hk HEN hdd
            obtain ⟨kcs, hkcs⟩ : ∃ z : List Value, [Value.int .i64 kid.f0, .bool kid.f1, .slice a2 kid.f2.length c2, .slice a3 kid.f3.length c3, .slice a4 kid.f4.length c4] = z := ⟨_, rfl⟩
            have HKCS := Aside0.mk hkcs
            rw [hkcs] at HP7
            clear hkcs
            have hb8 := below_alloc (Below.refl wf.heap.size wf) (.cells #[.int .i64 kid.f0, .bool kid.f1, .slice a2 kid.f2.length c2, .slice a3 kid.f3.length c3, .slice a4 kid.f4.length c4] 26)
            have HX8 := Aside0.mk (heap_alloc_new wf (.cells #[.int .i64 kid.f0, .bool kid.f1, .slice a2 kid.f2.length c2, .slice a3 kid.f3.length c3, .slice a4 kid.f4.length c4] 26))
            have HEN := Aside0.mk (HEN7.out.below hb8)
            have HP8 := Aside0.mk (HP7.out.keep (KeepBut.of_below hb8 g none) HEN7.out.gw)
            have HQ8 : Aside0 (wf.heap.size ≠ g ∧ wf.heap.size ≠ q ∧ (∀ k, v3.ownBlock = some k → k < wf.heap.size)) := ⟨by have := HEN7.out.gw; have := HEN7.out.kp.1; omega, by have := HEN7.out.pw; have := HEN7.out.kp.1; omega, fun k hk => (R_own HEN7.out.rn k hk).2⟩
            clear hb8
            go_upto_region 41 with fail
            obtain ⟨wg, hwg⟩ : ∃ z, (wf.alloc (.cells #[.int .i64 kid.f0, .bool kid.f1, .slice a2 kid.f2.length c2, .slice a3 kid.f3.length c3, .slice a4 kid.f4.length c4] 26)) = z := ⟨_, rfl⟩
            obtain ⟨kb, hkb9⟩ : ∃ z, wf.heap.size = z := ⟨_, rfl⟩
            rw [hwg] at HX8 HEN HP8 ⊢
            rw [hkb9] at HX8 HQ8 ⊢
            rw [hkb9] at HP8
            clear hwg hkb9 HEN7 HP7
            go_wp2_with fail
            refine (must_any w0 wg g s7 n7 sR HEN.out.rd (by omega)).mono ?_
            rintro e_ wh ⟨rfl, hr, hk⟩
            have HENn := Aside0.mk (HEN.out.keep hr hk)
            have HXn := Aside0.mk (hk.blk HX8.out HQ8.out.1 (by simp))
            have HPn := Aside0.mk (HP8.out.keep hk HEN.out.gw)
            clear HX8 HP8
            clear HEN hr hk
            have HEN := HENn
            clear HENn
            have hlsd9 := wd1_len s7 sR
            obtain ⟨sd9, hs9⟩ : ∃ q, wd1 s7 sR = q := ⟨_, rfl⟩
            have HSsd9 := Aside0.mk hs9
            rw [hs9] at HEN hlsd9
            clear hs9
            obtain ⟨y0, y1, y2, y3, y4⟩ := cells5 HEN.out.bx
            have hkl : ks.length ≤ 1073741824 := by omega
            have hnl : ns.length ≤ 1073741824 := by omega
            have HKS := Aside0.mk hks
            clear hks
            go_upto_region 43 with ((with_reducible refine gate_builtin (b := .append) (xs := #[.tmp 140, .tmp 142]) rfl ?_); at_builtin; refine Kd.R_append Kd.string (w0 := wh) w7.heap.size rfl (.tmp 140) (.tmp 142) 23 9 (.string ByteArray.empty) 16 rfl Try.underlying23 info9 rfl (by decide) (by omega) v3 ns nm [.string nm] (fun _ => True) (fun _ => False) rfl rfl ?aP (fun _ hk => hk.elim) (fun _ _ => trivial) ?aO ?aB ?aS ?aL ?_; (case aP => exact rfl); (case aO => exact HEN.out.rn); (case aB => exact Below.refl _ _); (case aS => exact HEN.out.kp.1); (case aL => omega); intro v3' wi ho hb hg hat; obtain ⟨A3n, c3n, hv⟩ := Kd.R_slice ho; obtain ⟨m3, hm3⟩ : ∃ z, (ns ++ [nm]).length = z := ⟨_, rfl⟩; rw [hm3] at hv; clear hm3; subst hv; have HAP := Aside0.mk (And.intro ho (And.intro hg hat)); have hbq := blk_grown HEN.out.bx hg (fun he => by have := R_own HEN.out.rn q he.symm; have := HEN.out.pw; omega); have hfq := blk_frozen hbq 3; have hcq := blk_cell hbq 3; clear ho hb hg hat hbq)
            clear hfq hcq y0 y1 y2 y3 y4
            have HENn := Aside0.mk (HEN.out.app3 HW0.out.2 HW0.out.1 HAP.out.1 HAP.out.2.1 HAP.out.2.2)
            have HPn := Aside0.mk (HPn.out.app3 HAP.out.2.1 HAP.out.2.2 HEN.out.pw (.slice A3n m3 c3n))
            have HXn2 := Aside0.mk (blk_far (blk_grown HXn.out HAP.out.2.1 (fun he => by have := HQ8.out.2.2 kb he.symm; omega)) (p := ⟨q, 3, none⟩) HQ8.out.2.1 (.slice A3n m3 c3n))
            clear HEN HAP HXn
            have HEN := HENn
            clear HENn
            generalize (wi.setCell ⟨q, 3, none⟩ (.slice A3n m3 c3n)) = wj at *
            obtain ⟨y0, y1, y2, y3, y4⟩ := cells5 HEN.out.bx
            obtain ⟨x0, x1, x2, x3, x4⟩ := cells5 HXn2.out
            rw [← HKCS.out] at HPn
            obtain ⟨m4, hm4⟩ : ∃ z, (css ++ [[Value.int .i64 kid.f0, .bool kid.f1, .slice a2 kid.f2.length c2, .slice a3 kid.f3.length c3, .slice a4 kid.f4.length c4]]).length = z := ⟨_, rfl⟩
            have HLC := Aside0.mk hm4
            clear hm4
            have hcl : css.length ≤ 1073741824 := by rw [← HEN.out.len]; omega
            go_wp2_with ((with_reducible refine gate_builtin (b := .append) (xs := #[.tmp 146, .tmp 148]) rfl ?_); at_builtin; refine Kd.R_append kraw (w0 := wj) w7.heap.size rfl (.tmp 146) (.tmp 148) 24 26 (.agg #[.int .i64 0, .bool false, .slice none 0 0, .slice none 0 0, .slice none 0 0]) 88 rfl Try.underlying24 info26 rfl (by decide) (by omega) v4 css [.int .i64 kid.f0, .bool kid.f1, .slice a2 kid.f2.length c2, .slice a3 kid.f3.length c3, .slice a4 kid.f4.length c4] [.int .i64 kid.f0, .bool kid.f1, .slice a2 kid.f2.length c2, .slice a3 kid.f3.length c3, .slice a4 kid.f4.length c4] (fun k => some k ≠ (Value.slice A3n m3 c3n).ownBlock) (fun _ => False) rfl rfl ?aP (fun _ hk => hk.elim) ?aF ?aO ?aB ?aS ?aL ?_; (case aP => exact ⟨rfl, rfl, by simp [Value.oneCell']⟩); (case aF => exact (fun k hk he => by have := R_own HEN.out.rn k he.symm; omega)); (case aO => exact HEN.out.rk); (case aB => exact Below.refl _ _); (case aS => exact HEN.out.kp.1); (case aL => omega); intro v4' wk ho hb hg hat; obtain ⟨A4n, c4n, hv⟩ := Kd.R_slice ho; rw [HLC.out] at hv; subst hv; have HAP := Aside0.mk (And.intro ho (And.intro hg hat)); have hbq := blk_grown HEN.out.bx hg (fun he => by have := R_own HEN.out.rk q he.symm; have := HEN.out.pw; omega); have hfq := blk_frozen hbq 4; have hcq := blk_cell hbq 4; clear ho hb hg hat hbq)
            have HEND := Aside0.mk (HEN.out.app4 HW0.out.2 HW0.out.1 HPn.out HAP.out.1 HAP.out.2.1 HAP.out.2.2)
            have HRE : Aside0 (entS (nodeR F (deep + 1)) L (sd9, n7) (ns ++ [nm], ks ++ [kid]) = R) := ⟨by
              rw [← HRR.out, entS_kid (l := lm) (q2 := sm) (t := kid) (q3 := s7) (m := n7) h0 (by rw [HSt.out, htE9.out]) ht0 (by rw [wdS_cons, HSsa9.out, wdS_cons, HSsb9.out]; exact HSm.out) (by rw [wdS_cons, HSsc9.out]; exact HN7.out), wdS_cons, HSsd9.out, HNM.out]
              rfl⟩
            refine ⟨⟨sd9, n7, L, ns ++ [nm], ks ++ [kid], _, _, _, HEND, by omega, by simp; omega, by simp [HKS.out], by omega, HRE, ⟨⟨fun x hx => ?_, fun x hx => ?_⟩⟩⟩, ?_⟩
            · rcases List.mem_append.1 hx with hx | hx
              · exact HGG.out.1 x hx
              · simp at hx; subst hx; omega
            · rcases List.mem_append.1 hx with hx | hx
              · exact HGG.out.2 x hx
              · simp at hx; subst hx; exact HG7.out
            · rw [HEND.out.rd.len, HRL.out]; omega
          · have e_sR : (yt.toList == [41]) = false := by simpa using fun h => htR ((hsit sR _ rfl).1 h)
            have e_sEntry : (yt.toList == [101, 110, 116, 114, 121]) = false := by simpa using fun h => htE ((hsit sEntry _ rfl).1 h)
            have HODD := Aside0.mk (entS_odd (f := nodeR F (deep + 1)) (L := L) (n := n') (a := (ns, ks)) h0 HSt.out ht0 htR htE)
            clear htR htE
            have HENn := Aside0.mk (HEN.out.keep (HEN.out.rd.err 3) (KeepBut.set_ (KeepBut.refl wa g none) 1 (.int .i64 3)))
            clear HEN
            have HEN := HENn
            clear HENn
            obtain ⟨A3, c3, hv3⟩ := Kd.R_slice HEN.out.rn
            obtain ⟨A4, c4, hv4⟩ := Kd.R_slice HEN.out.rk
            subst hv3 hv4
            have HTF : Aside0 (T = (⟨2, false, [], ns, ks⟩, (st.1, 3), n')) := ⟨HTB.out.trans (by rw [← HRR.out, HODD.out])⟩
            have HB : Aside0 (BR w0 w1 (wa.setCell ⟨g, 1, none⟩ (.int .i64 3)) g q (st.1, 3) n' #[.int .i64 2, .bool false, .slice none 0 0, .slice A3 ns.length c3, .slice A4 css.length c4]) := ⟨⟨HEN.out.rd, HEN.out.bx, kept_but HB7.out.kp HEN.out.kp HB7.out.lp, HB7.out.np, HB7.out.lp, HB7.out.lg⟩⟩
            have HKT := Aside0.mk (HEN.out.tree.mono (D' := fun k => w1.heap.size ≤ k ∧ k < (wa.setCell ⟨g, 1, none⟩ (.int .i64 3)).heap.size) (fun k hk => ⟨Nat.le_trans HB7.out.kp.1 hk.1, hk.2⟩))
            have HGT : Aside0 (GT (F + 1) ⟨2, false, [], ns, ks⟩) := ⟨⟨by show (Lit.int .i64 2).wf = true; decide, ⟨by simp, by simp, fun x h => by cases h⟩, ⟨by show ns.length ≤ maxLen; simp [maxLen]; omega, by show ns.length * 16 ≤ _; omega, fun s h => Nat.le_trans (HGG.out.1 s h) (by decide)⟩, by show ks.length ≤ maxLen; simp [maxLen]; omega, by show ks.length * 88 ≤ _; omega, HGG.out.2⟩⟩
            clear HEN
            obtain ⟨x0, x1, x2, x3, x4⟩ := cells5 HB.out.bx
            have HTT := Aside0.mk (HTF.out)
            have HE := Aside0.mk (BR.fin HP1.out HB.out)
            obtain ⟨b0, b1, b2, b3, b4⟩ := cells5 HE.out.bx
            have f0 := blk_frozen HE.out.bx 0
            have f1 := blk_frozen HE.out.bx 1
            have f2 := blk_frozen HE.out.bx 2
            have f3 := blk_frozen HE.out.bx 3
            have f4 := blk_frozen HE.out.bx 4
            have HF := Aside0.mk (HE.out.same (.int .i64 2) (.bool false) (.slice none 0 0) (.slice A3 ns.length c3) (.slice A4 css.length c4))
            have HKF := Aside0.mk (KF_five (a := (.int .i64 2)) (b := (.bool false)) (c := (.slice none 0 0)) (d := (.slice A3 ns.length c3)) (e := (.slice A4 css.length c4)) (p := p) (w := w) (HKT.out) HPL.out.1 HPL.out.2)
            have HG := Aside0.mk (HGT.out)
            go_wp2_with fail
            exact bodyPost_ret (results_cell_row rfl _ _ p 26 _ (0, 0) _ rfl HF.out.bx Try.underlying26 rfl (by kernel_rfl)) rfl (NR_post HTT.out HKF.out HG.out HF.out.rd HF.out.kp)
      · have et : (st.2 != 0) = true := by simpa using ht0
        obtain ⟨A3, c3, hv3⟩ := Kd.R_slice HEN.out.rn
        obtain ⟨A4, c4, hv4⟩ := Kd.R_slice HEN.out.rk
        subst hv3 hv4
        have HTF : Aside0 (T = (⟨2, false, [], ns, ks⟩, st, n')) := ⟨HTB.out.trans (by rw [← HRR.out, entS_err h0 HSt.out ht0])⟩
        have HB : Aside0 (BR w0 w1 wa g q st n' #[.int .i64 2, .bool false, .slice none 0 0, .slice A3 ns.length c3, .slice A4 css.length c4]) := ⟨⟨HEN.out.rd, HEN.out.bx, kept_but HB7.out.kp HEN.out.kp HB7.out.lp, HB7.out.np, HB7.out.lp, HB7.out.lg⟩⟩
        have HKT := Aside0.mk (HEN.out.tree.mono (D' := fun k => w1.heap.size ≤ k ∧ k < wa.heap.size) (fun k hk => ⟨Nat.le_trans HB7.out.kp.1 hk.1, hk.2⟩))
        have HGT : Aside0 (GT (F + 1) ⟨2, false, [], ns, ks⟩) := ⟨⟨by show (Lit.int .i64 2).wf = true; decide, ⟨by simp, by simp, fun x h => by cases h⟩, ⟨by show ns.length ≤ maxLen; simp [maxLen]; omega, by show ns.length * 16 ≤ _; omega, fun s h => Nat.le_trans (HGG.out.1 s h) (by decide)⟩, by show ks.length ≤ maxLen; simp [maxLen]; omega, by show ks.length * 88 ≤ _; omega, HGG.out.2⟩⟩
        clear HEN
        obtain ⟨x0, x1, x2, x3, x4⟩ := cells5 HB.out.bx
        have HTT := Aside0.mk (HTF.out)
        have HE := Aside0.mk (BR.fin HP1.out HB.out)
        obtain ⟨b0, b1, b2, b3, b4⟩ := cells5 HE.out.bx
        have f0 := blk_frozen HE.out.bx 0
        have f1 := blk_frozen HE.out.bx 1
        have f2 := blk_frozen HE.out.bx 2
        have f3 := blk_frozen HE.out.bx 3
        have f4 := blk_frozen HE.out.bx 4
        have HF := Aside0.mk (HE.out.same (.int .i64 2) (.bool false) (.slice none 0 0) (.slice A3 ns.length c3) (.slice A4 css.length c4))
        have HKF := Aside0.mk (KF_five (a := (.int .i64 2)) (b := (.bool false)) (c := (.slice none 0 0)) (d := (.slice A3 ns.length c3)) (e := (.slice A4 css.length c4)) (p := p) (w := w) (HKT.out) HPL.out.1 HPL.out.2)
        have HG := Aside0.mk (HGT.out)
        go_wp2_with fail
        exact bodyPost_ret (results_cell_row rfl _ _ p 26 _ (0, 0) _ rfl HF.out.bx Try.underlying26 rfl (by kernel_rfl)) rfl (NR_post HTT.out HKF.out HG.out HF.out.rd HF.out.kp)
    · have e0 : (s'.2 == 0) = false := by simpa using h0
      obtain ⟨A3, c3, hv3⟩ := Kd.R_slice HEN.out.rn
      obtain ⟨A4, c4, hv4⟩ := Kd.R_slice HEN.out.rk
      subst hv3 hv4
      have HTF : Aside0 (T = (⟨2, false, [], ns, ks⟩, s', n')) := ⟨HTB.out.trans (by rw [← HRR.out, entS_bad h0])⟩
      have HB : Aside0 (BR w0 w1 wr g q s' n' #[.int .i64 2, .bool false, .slice none 0 0, .slice A3 ns.length c3, .slice A4 css.length c4]) := ⟨⟨HEN.out.rd, HEN.out.bx, kept_but HB7.out.kp HEN.out.kp HB7.out.lp, HB7.out.np, HB7.out.lp, HB7.out.lg⟩⟩
      have HKT := Aside0.mk (HEN.out.tree.mono (D' := fun k => w1.heap.size ≤ k ∧ k < wr.heap.size) (fun k hk => ⟨Nat.le_trans HB7.out.kp.1 hk.1, hk.2⟩))
      have HGT : Aside0 (GT (F + 1) ⟨2, false, [], ns, ks⟩) := ⟨⟨by show (Lit.int .i64 2).wf = true; decide, ⟨by simp, by simp, fun x h => by cases h⟩, ⟨by show ns.length ≤ maxLen; simp [maxLen]; omega, by show ns.length * 16 ≤ _; omega, fun s h => Nat.le_trans (HGG.out.1 s h) (by decide)⟩, by show ks.length ≤ maxLen; simp [maxLen]; omega, by show ks.length * 88 ≤ _; omega, HGG.out.2⟩⟩
      clear HEN
      obtain ⟨x0, x1, x2, x3, x4⟩ := cells5 HB.out.bx
      have HTT := Aside0.mk (HTF.out)
      have HE := Aside0.mk (BR.fin HP1.out HB.out)
      obtain ⟨b0, b1, b2, b3, b4⟩ := cells5 HE.out.bx
      have f0 := blk_frozen HE.out.bx 0
      have f1 := blk_frozen HE.out.bx 1
      have f2 := blk_frozen HE.out.bx 2
      have f3 := blk_frozen HE.out.bx 3
      have f4 := blk_frozen HE.out.bx 4
      have HF := Aside0.mk (HE.out.same (.int .i64 2) (.bool false) (.slice none 0 0) (.slice A3 ns.length c3) (.slice A4 css.length c4))
      have HKF := Aside0.mk (KF_five (a := (.int .i64 2)) (b := (.bool false)) (c := (.slice none 0 0)) (d := (.slice A3 ns.length c3)) (e := (.slice A4 css.length c4)) (p := p) (w := w) (HKT.out) HPL.out.1 HPL.out.2)
      have HG := Aside0.mk (HGT.out)
      go_wp2_with fail
      exact bodyPost_ret (results_cell_row rfl _ _ p 26 _ (0, 0) _ rfl HF.out.bx Try.underlying26 rfl (by kernel_rfl)) rfl (NR_post HTT.out HKF.out HG.out HF.out.rd HF.out.kp)
end Go.Proofs.Ythhajkmeadapgaa.Tree
