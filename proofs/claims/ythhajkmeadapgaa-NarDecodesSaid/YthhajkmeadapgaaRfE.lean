/- nar's reference: node walked, its main road. Own work; printed by gen_rfd.py. -/
import Derived.Test.YthhajkmeadapgaaRfP
namespace Go.Proofs.Ythhajkmeadapgaa.Tree
set_option linter.unusedVariables false
set_option linter.unusedSimpArgs false
open Go.RowKit Go.Proofs.Ythhajkmeadapgaa.PL Go.Proofs.Ythhajkmeadapgaa.Mn Go.Proofs.YthhajkmeadapgaaW.PrintWords Go.Proofs.YthhajkmeadapgaaW.PrintLast Go.Proofs.YthhajkmeadapgaaW.PrintMore
/-- a row of bytes that is read wherever the blocks of D are as they are here -/
def DF (D : Nat → Prop) (w : World) (A : Option Addr) (l : List Int) : Prop := ∀ w' : World, (∀ k, D k → w'.heap[k]? = w.heap[k]?) → (Kd.int .u8).C w' A l.length l
theorem DF.move {D : Nat → Prop} {w w1 : World} {A : Option Addr} {l : List Int} (h : DF D w A l) (hm : ∀ k, D k → w1.heap[k]? = w.heap[k]?) : DF D w1 A l := fun w' h' => h w' (fun k hk => (h' k hk).trans (hm k hk))
theorem KF_data {D : Nat → Prop} {w : World} {k : Int} {ex : Bool} {A : Option Addr} {c : Nat} {l : List Int} (h : DF D w A l) (hc : l.length ≤ c) : KF D w ⟨k, ex, l, [], []⟩ [.int .i64 k, .bool ex, .slice A l.length c, .slice none 0 0, .slice none 0 0] := fun w' h' =>
  k26_mk w' ⟨k, ex, l, [], []⟩ hc (h w' h') (Nat.le_refl _) (Kd.C_nil _ _) (Nat.le_refl _) (Kd.C_nil _ _)
theorem DF_bytes (W : World) (s : ByteArray) (hs : s.size ≤ 9223372036854775807) : DF (fun k => k = W.heap.size) (Lib.bytesWorld W 5 s) (some ⟨W.heap.size, 0, none⟩) (bytesOf s) := by
  intro w' h
  have hw := h _ rfl
  refine Kd.C_of_reads (d := (0 : Int)) (h1 := fun _ => rfl) ⟨rfl, by rw [bytesOf_length]; exact hs, fun _ => ⟨_, rfl, fun j hj => ?_⟩⟩
  rw [bytesOf_length] at hj
  obtain ⟨-, -, hr⟩ := bytes_reads W 5 s hs
  obtain ⟨ad, e, hc⟩ := hr (by omega)
  injection e with e
  subst e
  rw [add_plain, World.cell?_of_block (w := Lib.bytesWorld W 5 s) (w' := w') (a := ⟨W.heap.size, j, none⟩) hw]
  have := hc j hj
  rw [add_plain] at this
  exact this
theorem dat_keep {w1 wr w2 : World} {g : Nat} {A : Option Addr} {l : List Int} (h : DF (fun k => w1.heap.size ≤ k ∧ k < wr.heap.size) wr A l) (hk : KeepBut wr w2 g none) (hg : g < w1.heap.size) : DF (fun k => w1.heap.size ≤ k ∧ k < w2.heap.size) w2 A l := by
  intro w' h'
  exact h w' (fun k hk' => (h' k ⟨hk'.1, Nat.lt_of_lt_of_le hk'.2 hk.1⟩).trans (hk.2 k hk'.2 (by omega) (by simp)))
theorem BR.bytes {w0 w wr : World} {g p : Nat} {s : RS} {n : Nat} {cs : Array Value} (h : BR w0 w wr g p s n cs) (y : ByteArray) : BR w0 w (Lib.bytesWorld wr 5 y) g p s n cs :=
  h.below (bytes_below (Below.refl _ wr) (Nat.le_refl _) 5 y)
/-- the bytes stored into the tree's box lie there -/
theorem DF_box {w1 W : World} {y : ByteArray} {q : Nat} (hs : y.size ≤ 9223372036854775807) (hq : q < W.heap.size) (h1 : w1.heap.size ≤ W.heap.size) (u : Value) : DF (fun k => w1.heap.size ≤ k ∧ k < ((Lib.bytesWorld W 5 y).setCell ⟨q, 2, none⟩ u).heap.size) ((Lib.bytesWorld W 5 y).setCell ⟨q, 2, none⟩ u) (some ⟨W.heap.size, 0, none⟩) (bytesOf y) := by
  intro w' h'
  refine DF_bytes W y hs w' (fun k hk => ?_)
  subst hk
  have hb : ((Lib.bytesWorld W 5 y).setCell ⟨q, 2, none⟩ u).heap.size = W.heap.size + 1 := by simp only [World.setCell, Array.size_modify, Lib.bytesWorld_size]
  exact (h' _ ⟨h1, by rw [hb]; omega⟩).trans (Below.heap_setCell _ ⟨q, 2, none⟩ u _ (by show W.heap.size ≠ q; omega))
set_option maxRecDepth 20000 in
set_option maxHeartbeats 4000000 in
theorem rnode_main (w0 : World) (g F : Nat) (deep : Nat) (s : RS) (n : Nat) (w : World) (hd : deep + F = 65) (hR : RR w0 w g s n) (hl : s.1.length ≤ 1073741824) (hn : n + s.1.length ≤ 1099511627776) (ih : NRC w0 g F) (hs : s.2 = 0) (hq : ¬ (65536 < n + 1 ∨ 64 < deep)) (hnd : (txS (wdS s [sL, sType])).2.2 = 0 → (txS (wdS s [sL, sType])).1 ≠ bytesOf sDir) :
    Calls Try.prog 50 #[.pointer (some ⟨g, 0, none⟩), .int .i64 (deep : Int)] w (NRP w0 w g (F + 1) (nodeR (F + 1) deep (s, n))) := by
  have IH := Aside0.mk ih
  have HND := Aside0.mk hnd
  clear ih hnd
  obtain ⟨T, hT⟩ : ∃ q, nodeR (F + 1) deep (s, n) = q := ⟨_, rfl⟩
  rw [hT]
  have HT := Aside0.mk hT
  clear hT
  have hgl : g < w.heap.size := by obtain ⟨A, c, h1, -, -⟩ := hR.blk; exact blk_lt h1
  have HP1 : Aside0 (BR w0 w (w.alloc (.cells #[.int .i64 0, .bool false, .slice none 0 0, .slice none 0 0, .slice none 0 0] 26)) g w.heap.size s n #[.int .i64 0, .bool false, .slice none 0 0, .slice none 0 0, .slice none 0 0]) :=
    ⟨⟨hR.keep (below_alloc (Below.refl _ w) _), heap_alloc_new w _, KeepBut.of_below (below_alloc (Below.refl _ w) _) g none, by omega, Nat.le_refl _, hgl⟩⟩
  have hgo := hq
  have hn1 : decide ((n : Int) + 1 > 65536) = false := decide_eq_false (fun h => hq (.inl (by omega)))
  have hd1 : decide ((deep : Int) > 64) = false := decide_eq_false (fun h => hq (.inr (by omega)))
  clear hq
  clear hR hgl
  go_enter Try.func50, Try.ntmps50
  go_upto_region 1 with fail
  generalize (w.alloc (.cells #[.int .i64 0, .bool false, .slice none 0 0, .slice none 0 0, .slice none 0 0] 26)) = w1 at *
  obtain ⟨p, hp⟩ : ∃ q, w.heap.size = q := ⟨_, rfl⟩
  rw [hp] at HP1 ⊢
  have HP : Aside0 (w.heap.size = p) := ⟨hp⟩
  clear hp
  obtain ⟨A, c, hblk, hc, hC⟩ := HP1.out.rd.blk
  obtain ⟨⟨p0, p1, p2⟩, q0, q1, q2⟩ := cells3 hblk
  have he : (s.2 != 0) = false := by simp [hs]
  have hst : RR w0 (w1.setCell ⟨g, 2, none⟩ (.int .i64 ((n : Int) + 1))) g s (n + 1) := ⟨⟨A, c, by simpa using blk_set hblk 2 (.int .i64 ((n : Int) + 1)), hc, hC⟩, below_set HP1.out.rd.b HP1.out.rd.lo, HP1.out.rd.lo, HP1.out.rd.b8⟩
  have HB := Aside0.mk (And.intro hst (KeepBut.set_ (KeepBut.refl w1 g none) 2 (.int .i64 ((n : Int) + 1))))
  clear hst hblk hc hC
  go_upto_region 4 with fail
  clear p0 p1 p2 q0 q1 q2 he
  generalize (w1.setCell ⟨g, 2, none⟩ (.int .i64 ((n : Int) + 1))) = w2 at *
  obtain ⟨Ar, cr, hblk, -, -⟩ := HB.out.1.blk
  obtain ⟨⟨-, pe, pn⟩, -, qe, -⟩ := cells3 hblk
  rw [show (((n + 1 : Nat)) : Int) = (n : Int) + 1 from by omega] at pn
  clear hblk pe qe
  have HG1 : Aside0 (g < w1.heap.size) := ⟨by have := HP1.out.lg; have := HP1.out.kp.1; omega⟩
  have HPL : Aside0 (p < w1.heap.size ∧ w.heap.size ≤ w1.heap.size) := ⟨blk_lt HP1.out.bx, HP1.out.kp.1⟩
  go_wp2_with fail
  refine (must_any w0 w2 g s (n + 1) sL HB.out.1 (by omega)).mono ?_
  rintro e_ w3 ⟨rfl, hr, hk⟩
  have HBn := Aside0.mk (And.intro hr (HB.out.2.trans hk (.inl rfl)))
  clear HB hr hk
  have HB := HBn
  clear HBn
  have hlsa := wd1_len s sL
  obtain ⟨sa, hs9⟩ : ∃ q, wd1 s sL = q := ⟨_, rfl⟩
  have HSsa := Aside0.mk hs9
  rw [hs9] at HB hlsa
  clear hs9
  clear pn
  go_wp2_with fail
  refine (must_any w0 w3 g sa (n + 1) sType HB.out.1 (by omega)).mono ?_
  rintro e_ w4 ⟨rfl, hr, hk⟩
  have HBn := Aside0.mk (And.intro hr (HB.out.2.trans hk (.inl rfl)))
  clear HB hr hk
  have HB := HBn
  clear HBn
  have hlsb := wd1_len sa sType
  obtain ⟨sb, hs9⟩ : ∃ q, wd1 sa sType = q := ⟨_, rfl⟩
  have HSsb := Aside0.mk hs9
  rw [hs9] at HB hlsb
  clear hs9
  have HSW : Aside0 (wdS s [sL, sType] = sb) := ⟨by rw [wdS_cons, HSsa.out, wdS_cons, HSsb.out]; rfl⟩
  go_wp2_with fail
  refine (rtext_any w0 w4 g sb (n + 1) HB.out.1 (by omega)).mono ?_
  rintro e_ w5 ⟨rfl, hr, hk, h8⟩
  have HBn := Aside0.mk (And.intro hr (HB.out.2.trans hk (.inl rfl)))
  clear HB hr hk
  have HB := HBn
  clear HBn
  have hlenk := txS_len sb
  obtain ⟨lk, hl1⟩ : ∃ q, (txS sb).1 = q := ⟨_, rfl⟩
  obtain ⟨sk, hs1⟩ : ∃ q, (txS sb).2 = q := ⟨_, rfl⟩
  have HSk : Aside0 (txS sb = (lk, sk)) := ⟨by rw [← hl1, ← hs1]⟩
  rw [hl1] at h8 hlenk ⊢
  rw [hs1] at HB hlenk
  have HXk := Aside0.mk h8
  clear hl1 hs1 h8
  have HTQ := Aside0.mk (HT.out.symm.trans (nodeR_go (F := F) (deep := deep) (n := n) (l := lk) (q := sk) hs hgo (by rw [HSW.out]; exact HSk.out)))
  have HB1 := Aside0.mk HB.out.1
  have HBq : Aside0 (BR w0 w1 (w5.alloc (.cells #[.int .i64 0, .bool false, .slice none 0 0, .slice none 0 0, .slice none 0 0] 26)) g w5.heap.size sk (n + 1) #[.int .i64 0, .bool false, .slice none 0 0, .slice none 0 0, .slice none 0 0]) := ⟨⟨HB.out.1.keep (below_alloc (Below.refl _ w5) _), heap_alloc_new w5 _, HB.out.2.trans (KeepBut.of_below (below_alloc (Below.refl _ w5) _) g none) (.inl rfl), by have := HG1.out; have := HB.out.2.1; omega, HB.out.2.1, HG1.out⟩⟩
  have hsik := fun (x : ByteArray) (L : List UInt8) (hL : x.data.toList = L) => str_lit HXk.out x L hL
  obtain ⟨yk, hy⟩ : ∃ q, strOfNums lk = q := ⟨_, rfl⟩
  rw [hy] at hsik ⊢
  clear hy
  go_upto_region 12 with fail
  clear HB HB1
  have HB := HBq
  clear HBq
  generalize (w5.alloc (.cells #[.int .i64 0, .bool false, .slice none 0 0, .slice none 0 0, .slice none 0 0] 26)) = w6 at *
  obtain ⟨q, hq9⟩ : ∃ q, w5.heap.size = q := ⟨_, rfl⟩
  rw [hq9] at HB ⊢
  clear hq9
  obtain ⟨Ar, cr, hblk, -, -⟩ := HB.out.rd.blk
  obtain ⟨⟨-, pe, -⟩, -, qe, -⟩ := cells3 hblk
  clear hblk
  by_cases hk0 : sk.2 = 0
  · have hkb : (sk.2 != 0) = false := by simp [hk0]
    have hk1 : ¬ sk.2 ≠ 0 := fun h => h hk0
    by_cases hreg : lk = bytesOf sReg
    · have e_sReg : (yk.toList == [114, 101, 103, 117, 108, 97, 114]) = true := by rw [(hsik sReg _ rfl).2 hreg]; simp
      have HTB : Aside0 (T = (⟨1, (regS sk).1, (regS sk).2.1, [], []⟩, (regS sk).2.2, n + 1)) := ⟨HTQ.out.trans (by rw [if_neg hk1, if_pos hreg])⟩
      clear hreg HTQ
      have hfq := blk_frozen HB.out.bx 0
      have hcq := blk_cell HB.out.bx 0
      go_upto_region 15 with fail
      have HBn : Aside0 (BR w0 w1 (w6.setCell ⟨q, 0, none⟩ (.int .i64 1)) g q sk (n + 1) #[.int .i64 1, .bool false, .slice none 0 0, .slice none 0 0, .slice none 0 0]) := ⟨by simpa using HB.out.set 0 (.int .i64 1)⟩
      clear HB hfq hcq
      have HB := HBn
      clear HBn
      generalize (w6.setCell ⟨q, 0, none⟩ (.int .i64 1)) = w7 at *
      clear pe qe
      go_wp2_with fail
      refine (rtext_any w0 w7 g sk (n + 1) HB.out.rd (by omega)).mono ?_
      rintro e_ w8 ⟨rfl, hr, hk, h8⟩
      have HBn := Aside0.mk (HB.out.keep hr hk)
      clear HB hr hk
      have HB := HBn
      clear HBn
      have hlenx := txS_len sk
      obtain ⟨lx, hl1⟩ : ∃ q, (txS sk).1 = q := ⟨_, rfl⟩
      obtain ⟨sx, hs1⟩ : ∃ q, (txS sk).2 = q := ⟨_, rfl⟩
      have HSx : Aside0 (txS sk = (lx, sx)) := ⟨by rw [← hl1, ← hs1]⟩
      rw [hl1] at h8 hlenx ⊢
      rw [hs1] at HB hlenx
      have HXx := Aside0.mk h8
      clear hl1 hs1 h8
      have hsix := fun (x : ByteArray) (L : List UInt8) (hL : x.data.toList = L) => str_lit HXx.out x L hL
      obtain ⟨yx, hy⟩ : ∃ q, strOfNums lx = q := ⟨_, rfl⟩
      rw [hy] at hsix ⊢
      clear hy
      obtain ⟨Ar, cr, hblk, -, -⟩ := HB.out.rd.blk
      obtain ⟨⟨-, pe, -⟩, -, qe, -⟩ := cells3 hblk
      clear hblk
      by_cases hx0 : sx.2 = 0
      · by_cases hxe : lx = bytesOf sExec
        · have e_sExec : (yx.toList == [101, 120, 101, 99, 117, 116, 97, 98, 108, 101]) = true := by rw [(hsix sExec _ rfl).2 hxe]; simp
          have e_x : (sx.2 == 0) = true := by simp [hx0]
          have HXE := Aside0.mk (And.intro hx0 hxe)
          clear hxe hx0
          have hfq := blk_frozen HB.out.bx 1
          have hcq := blk_cell HB.out.bx 1
          go_upto_region 18 with fail
          have HBn : Aside0 (BR w0 w1 (w8.setCell ⟨q, 1, none⟩ (.bool true)) g q sx (n + 1) #[.int .i64 1, .bool true, .slice none 0 0, .slice none 0 0, .slice none 0 0]) := ⟨by simpa using HB.out.set 1 (.bool true)⟩
          clear HB hfq hcq
          have HB := HBn
          clear HBn
          generalize (w8.setCell ⟨q, 1, none⟩ (.bool true)) = w9 at *
          clear pe qe
          go_wp2_with fail
          refine (must_any w0 w9 g sx (n + 1) sEmpty HB.out.rd (by omega)).mono ?_
          rintro e_ w10 ⟨rfl, hr, hk⟩
          have HBn := Aside0.mk (HB.out.keep hr hk)
          clear HB hr hk
          have HB := HBn
          clear HBn
          have hlsv := wd1_len sx sEmpty
          obtain ⟨sv, hs9⟩ : ∃ q, wd1 sx sEmpty = q := ⟨_, rfl⟩
          have HSsv := Aside0.mk hs9
          rw [hs9] at HB hlsv
          clear hs9
          go_wp2_with fail
          refine (rtext_any w0 w10 g sv (n + 1) HB.out.rd (by omega)).mono ?_
          rintro e_ w11 ⟨rfl, hr, hk, h8⟩
          have HBn := Aside0.mk (HB.out.keep hr hk)
          clear HB hr hk
          have HB := HBn
          clear HBn
          have hlenz := txS_len sv
          obtain ⟨lz, hl1⟩ : ∃ q, (txS sv).1 = q := ⟨_, rfl⟩
          obtain ⟨sz, hs1⟩ : ∃ q, (txS sv).2 = q := ⟨_, rfl⟩
          have HSz : Aside0 (txS sv = (lz, sz)) := ⟨by rw [← hl1, ← hs1]⟩
          rw [hl1] at h8 hlenz ⊢
          rw [hs1] at HB hlenz
          have HXz := Aside0.mk h8
          clear hl1 hs1 h8
          have hsiz := fun (x : ByteArray) (L : List UInt8) (hL : x.data.toList = L) => str_lit HXz.out x L hL
          obtain ⟨yz, hy⟩ : ∃ q, strOfNums lz = q := ⟨_, rfl⟩
          rw [hy] at hsiz ⊢
          clear hy
          obtain ⟨Ar, cr, hblk, -, -⟩ := HB.out.rd.blk
          obtain ⟨⟨-, pe, -⟩, -, qe, -⟩ := cells3 hblk
          clear hblk
          have HA : Aside0 ((if (txS sk).2.2 = 0 ∧ (txS sk).1 = bytesOf sExec then (true, (txS (wdS (txS sk).2 [sEmpty])).1, (txS (wdS (txS sk).2 [sEmpty])).2) else (false, (txS sk).1, (txS sk).2) : Bool × List Int × RS) = (true, lz, sz)) := ⟨by rw [HSx.out]; simp only; rw [if_pos HXE.out, wdS_cons, HSsv.out, show wdS sv [] = sv from rfl, HSz.out]⟩
          by_cases hz0 : sz.2 = 0
          · have e_z : (sz.2 == 0) = true := by simp [hz0]
            have HZ0 := Aside0.mk hz0
            by_cases hcc : lz = bytesOf sCont
            · have e_sCont : (yz.toList == [99, 111, 110, 116, 101, 110, 116, 115]) = true := by rw [(hsiz sCont _ rfl).2 hcc]; simp
              have HCC := Aside0.mk hcc
              clear hcc
              go_wp2_with fail
              refine (rtext_any w0 w11 g sz (n + 1) HB.out.rd (by omega)).mono ?_
              rintro e_ w21 ⟨rfl, hr, hk, h8⟩
              have HBn := Aside0.mk (HB.out.keep hr hk)
              clear HB hr hk
              have HB := HBn
              clear HBn
              have hlend := txS_len sz
              obtain ⟨ld, hl1⟩ : ∃ q, (txS sz).1 = q := ⟨_, rfl⟩
              obtain ⟨sd, hs1⟩ : ∃ q, (txS sz).2 = q := ⟨_, rfl⟩
              have HSd : Aside0 (txS sz = (ld, sd)) := ⟨by rw [← hl1, ← hs1]⟩
              rw [hl1] at h8 hlend ⊢
              rw [hs1] at HB hlend
              have HXd := Aside0.mk h8
              clear hl1 hs1 h8
              have hdl : ld.length ≤ 1073741824 := by omega
              have kb := fun (W : World) (y : ByteArray) => print_bytes (P := Try.prog) 9 22 5 Try.underlying9 Try.underlying22 Try.underlying5 y W
              obtain ⟨yd, hyd⟩ : ∃ q, strOfNums ld = q := ⟨_, rfl⟩
              have HYD : Aside0 (bytesOf yd = ld) := ⟨by rw [← hyd]; exact bytesOf_strOfNums HXd.out⟩
              have hys : yd.size = ld.length := by rw [← hyd]; exact strOfNums_len ld
              rw [hyd]
              clear hyd
              have kb := kb w21 yd
              have HBb := Aside0.mk (HB.out.bytes yd)
              have hfq := blk_frozen HBb.out.bx 2
              have hcq := blk_cell HBb.out.bx 2
              go_upto_region 23 with fail
              have HDX : Aside0 (DF (fun k => w1.heap.size ≤ k ∧ k < ((Lib.bytesWorld w21 5 yd).setCell ⟨q, 2, none⟩ (.slice (some ⟨w21.heap.size, 0, none⟩) yd.size (grownCap w21 yd.size 0 5))).heap.size) ((Lib.bytesWorld w21 5 yd).setCell ⟨q, 2, none⟩ (.slice (some ⟨w21.heap.size, 0, none⟩) yd.size (grownCap w21 yd.size 0 5))) (some ⟨w21.heap.size, 0, none⟩) ld) := ⟨by have := DF_box (w1 := w1) (W := w21) (y := yd) (q := q) (by omega) (blk_lt HB.out.bx) HB.out.kp.1 (.slice (some ⟨w21.heap.size, 0, none⟩) yd.size (grownCap w21 yd.size 0 5)); rw [HYD.out] at this; exact this⟩
              have HBn : Aside0 (BR w0 w1 ((Lib.bytesWorld w21 5 yd).setCell ⟨q, 2, none⟩ (.slice (some ⟨w21.heap.size, 0, none⟩) yd.size (grownCap w21 yd.size 0 5))) g q sd (n + 1) #[.int .i64 1, .bool true, .slice (some ⟨w21.heap.size, 0, none⟩) yd.size (grownCap w21 yd.size 0 5), .slice none 0 0, .slice none 0 0]) := ⟨by simpa using HBb.out.set 2 (.slice (some ⟨w21.heap.size, 0, none⟩) yd.size (grownCap w21 yd.size 0 5))⟩
              have hcap : ld.length ≤ grownCap w21 yd.size 0 5 := by rw [← hys]; exact grownCap_ge _ _ _ _
              clear HB HBb hfq hcq kb
              have HB := HBn
              clear HBn
              rw [hys] at HB HDX hcap
              generalize hww : ((Lib.bytesWorld w21 5 yd).setCell ⟨q, 2, none⟩ (.slice (some ⟨w21.heap.size, 0, none⟩) ld.length (grownCap w21 ld.length 0 5))) = w22 at *
              obtain ⟨Ad, hAd⟩ : ∃ z : Option Addr, (some ⟨w21.heap.size, 0, none⟩ : Option Addr) = z := ⟨_, rfl⟩
              obtain ⟨cd, hcd⟩ : ∃ z, grownCap w21 ld.length 0 5 = z := ⟨_, rfl⟩
              rw [hAd, hcd] at HB ⊢
              rw [hAd] at HDX
              rw [hcd] at hcap
              clear hAd hcd hww
              have HD := Aside0.mk (And.intro HDX.out (And.intro HG1.out hcap))
              clear HDX
              go_wp2_with fail
              refine (must_any w0 w22 g sd (n + 1) sR HB.out.rd (by omega)).mono ?_
              rintro e_ w23 ⟨rfl, hr, hk⟩
              have HBn := Aside0.mk (HB.out.keep hr hk)
              have HDn := Aside0.mk (dat_keep HD.out.1 hk HD.out.2.1)
              clear HB hr hk
              have HB := HBn
              clear HBn
              have HDn2 := Aside0.mk (And.intro HDn.out HD.out.2)
              clear HD HDn
              have HD := HDn2
              clear HDn2
              have hlse := wd1_len sd sR
              obtain ⟨se, hs9⟩ : ∃ q, wd1 sd sR = q := ⟨_, rfl⟩
              have HSse := Aside0.mk hs9
              rw [hs9] at HB hlse
              clear hs9
              obtain ⟨x0, x1, x2, x3, x4⟩ := cells5 HB.out.bx
              have HTT := Aside0.mk (HTB.out.trans (by rw [regS_of HA.out (if_neg (fun h => h.2 HCC.out)) HSd.out (by rw [wdS_cons, HSse.out])]))
              have HE := Aside0.mk (BR.fin HP1.out HB.out)
              obtain ⟨b0, b1, b2, b3, b4⟩ := cells5 HE.out.bx
              have f0 := blk_frozen HE.out.bx 0
              have f1 := blk_frozen HE.out.bx 1
              have f2 := blk_frozen HE.out.bx 2
              have f3 := blk_frozen HE.out.bx 3
              have f4 := blk_frozen HE.out.bx 4
              have HF := Aside0.mk (HE.out.same (.int .i64 1) (.bool true) (.slice Ad ld.length cd) (.slice none 0 0) (.slice none 0 0))
              have HKF := Aside0.mk (KF_five (a := (.int .i64 1)) (b := (.bool true)) (c := (.slice Ad ld.length cd)) (d := (.slice none 0 0)) (e := (.slice none 0 0)) (p := p) (w := w) (KF_data (k := 1) (ex := true) HD.out.1 HD.out.2.2) HPL.out.1 HPL.out.2)
              have HG := Aside0.mk (data_G (k := 1) (ex := true) (F := F) (by decide) HXd.out hdl)
              go_wp2_with fail
              exact bodyPost_ret (results_cell_row rfl _ _ p 26 _ (0, 0) _ rfl HF.out.bx Try.underlying26 rfl (by kernel_rfl)) rfl (NR_post HTT.out HKF.out HG.out HF.out.rd HF.out.kp)
            · have e_sCont : (yz.toList == [99, 111, 110, 116, 101, 110, 116, 115]) = false := by simpa using fun h => hcc ((hsiz sCont _ rfl).1 h)
              have HCC := Aside0.mk (And.intro HZ0.out hcc)
              clear hcc
              go_upto_region 22 with fail
              have HBn := Aside0.mk (HB.out.keep (HB.out.rd.err 3) (KeepBut.set_ (KeepBut.refl w11 g none) 1 (.int .i64 3)))
              clear HB pe qe
              have HB := HBn
              clear HBn
              generalize (w11.setCell ⟨g, 1, none⟩ (.int .i64 3)) = w25 at *
              obtain ⟨s3, hs3⟩ : ∃ q : RS, (sz.1, (3 : Int)) = q := ⟨_, rfl⟩
              have HS3 := Aside0.mk hs3
              have hl3 : s3.1.length = sz.1.length := by rw [← hs3]
              rw [hs3] at HB
              clear hs3
              go_wp2_with fail
              refine (rtext_any w0 w25 g s3 (n + 1) HB.out.rd (by omega)).mono ?_
              rintro e_ w26 ⟨rfl, hr, hk, h8⟩
              have HBn := Aside0.mk (HB.out.keep hr hk)
              clear HB hr hk
              have HB := HBn
              clear HBn
              have hlend := txS_len s3
              obtain ⟨ld, hl1⟩ : ∃ q, (txS s3).1 = q := ⟨_, rfl⟩
              obtain ⟨sd, hs1⟩ : ∃ q, (txS s3).2 = q := ⟨_, rfl⟩
              have HSd : Aside0 (txS s3 = (ld, sd)) := ⟨by rw [← hl1, ← hs1]⟩
              rw [hl1] at h8 hlend ⊢
              rw [hs1] at HB hlend
              have HXd := Aside0.mk h8
              clear hl1 hs1 h8
              have hdl : ld.length ≤ 1073741824 := by omega
              have kb := fun (W : World) (y : ByteArray) => print_bytes (P := Try.prog) 9 22 5 Try.underlying9 Try.underlying22 Try.underlying5 y W
              obtain ⟨yd, hyd⟩ : ∃ q, strOfNums ld = q := ⟨_, rfl⟩
              have HYD : Aside0 (bytesOf yd = ld) := ⟨by rw [← hyd]; exact bytesOf_strOfNums HXd.out⟩
              have hys : yd.size = ld.length := by rw [← hyd]; exact strOfNums_len ld
              rw [hyd]
              clear hyd
              have kb := kb w26 yd
              have HBb := Aside0.mk (HB.out.bytes yd)
              have hfq := blk_frozen HBb.out.bx 2
              have hcq := blk_cell HBb.out.bx 2
              go_upto_region 23 with fail
              have HDX : Aside0 (DF (fun k => w1.heap.size ≤ k ∧ k < ((Lib.bytesWorld w26 5 yd).setCell ⟨q, 2, none⟩ (.slice (some ⟨w26.heap.size, 0, none⟩) yd.size (grownCap w26 yd.size 0 5))).heap.size) ((Lib.bytesWorld w26 5 yd).setCell ⟨q, 2, none⟩ (.slice (some ⟨w26.heap.size, 0, none⟩) yd.size (grownCap w26 yd.size 0 5))) (some ⟨w26.heap.size, 0, none⟩) ld) := ⟨by have := DF_box (w1 := w1) (W := w26) (y := yd) (q := q) (by omega) (blk_lt HB.out.bx) HB.out.kp.1 (.slice (some ⟨w26.heap.size, 0, none⟩) yd.size (grownCap w26 yd.size 0 5)); rw [HYD.out] at this; exact this⟩
              have HBn : Aside0 (BR w0 w1 ((Lib.bytesWorld w26 5 yd).setCell ⟨q, 2, none⟩ (.slice (some ⟨w26.heap.size, 0, none⟩) yd.size (grownCap w26 yd.size 0 5))) g q sd (n + 1) #[.int .i64 1, .bool true, .slice (some ⟨w26.heap.size, 0, none⟩) yd.size (grownCap w26 yd.size 0 5), .slice none 0 0, .slice none 0 0]) := ⟨by simpa using HBb.out.set 2 (.slice (some ⟨w26.heap.size, 0, none⟩) yd.size (grownCap w26 yd.size 0 5))⟩
              have hcap : ld.length ≤ grownCap w26 yd.size 0 5 := by rw [← hys]; exact grownCap_ge _ _ _ _
              clear HB HBb hfq hcq kb
              have HB := HBn
              clear HBn
              rw [hys] at HB HDX hcap
              generalize hww : ((Lib.bytesWorld w26 5 yd).setCell ⟨q, 2, none⟩ (.slice (some ⟨w26.heap.size, 0, none⟩) ld.length (grownCap w26 ld.length 0 5))) = w27 at *
              obtain ⟨Ad, hAd⟩ : ∃ z : Option Addr, (some ⟨w26.heap.size, 0, none⟩ : Option Addr) = z := ⟨_, rfl⟩
              obtain ⟨cd, hcd⟩ : ∃ z, grownCap w26 ld.length 0 5 = z := ⟨_, rfl⟩
              rw [hAd, hcd] at HB ⊢
              rw [hAd] at HDX
              rw [hcd] at hcap
              clear hAd hcd hww
              have HD := Aside0.mk (And.intro HDX.out (And.intro HG1.out hcap))
              clear HDX
              go_wp2_with fail
              refine (must_any w0 w27 g sd (n + 1) sR HB.out.rd (by omega)).mono ?_
              rintro e_ w28 ⟨rfl, hr, hk⟩
              have HBn := Aside0.mk (HB.out.keep hr hk)
              have HDn := Aside0.mk (dat_keep HD.out.1 hk HD.out.2.1)
              clear HB hr hk
              have HB := HBn
              clear HBn
              have HDn2 := Aside0.mk (And.intro HDn.out HD.out.2)
              clear HD HDn
              have HD := HDn2
              clear HDn2
              have hlse := wd1_len sd sR
              obtain ⟨se, hs9⟩ : ∃ q, wd1 sd sR = q := ⟨_, rfl⟩
              have HSse := Aside0.mk hs9
              rw [hs9] at HB hlse
              clear hs9
              obtain ⟨x0, x1, x2, x3, x4⟩ := cells5 HB.out.bx
              have HTT := Aside0.mk (HTB.out.trans (by rw [regS_of HA.out (by rw [if_pos HCC.out]; exact HS3.out) HSd.out (by rw [wdS_cons, HSse.out])]))
              have HE := Aside0.mk (BR.fin HP1.out HB.out)
              obtain ⟨b0, b1, b2, b3, b4⟩ := cells5 HE.out.bx
              have f0 := blk_frozen HE.out.bx 0
              have f1 := blk_frozen HE.out.bx 1
              have f2 := blk_frozen HE.out.bx 2
              have f3 := blk_frozen HE.out.bx 3
              have f4 := blk_frozen HE.out.bx 4
              have HF := Aside0.mk (HE.out.same (.int .i64 1) (.bool true) (.slice Ad ld.length cd) (.slice none 0 0) (.slice none 0 0))
              have HKF := Aside0.mk (KF_five (a := (.int .i64 1)) (b := (.bool true)) (c := (.slice Ad ld.length cd)) (d := (.slice none 0 0)) (e := (.slice none 0 0)) (p := p) (w := w) (KF_data (k := 1) (ex := true) HD.out.1 HD.out.2.2) HPL.out.1 HPL.out.2)
              have HG := Aside0.mk (data_G (k := 1) (ex := true) (F := F) (by decide) HXd.out hdl)
              go_wp2_with fail
              exact bodyPost_ret (results_cell_row rfl _ _ p 26 _ (0, 0) _ rfl HF.out.bx Try.underlying26 rfl (by kernel_rfl)) rfl (NR_post HTT.out HKF.out HG.out HF.out.rd HF.out.kp)
          · have e_z : (sz.2 == 0) = false := by simpa using hz0
            have HZ0 := Aside0.mk hz0
            go_wp2_with fail
            refine (rtext_any w0 w11 g sz (n + 1) HB.out.rd (by omega)).mono ?_
            rintro e_ w30 ⟨rfl, hr, hk, h8⟩
            have HBn := Aside0.mk (HB.out.keep hr hk)
            clear HB hr hk
            have HB := HBn
            clear HBn
            have hlend := txS_len sz
            obtain ⟨ld, hl1⟩ : ∃ q, (txS sz).1 = q := ⟨_, rfl⟩
            obtain ⟨sd, hs1⟩ : ∃ q, (txS sz).2 = q := ⟨_, rfl⟩
            have HSd : Aside0 (txS sz = (ld, sd)) := ⟨by rw [← hl1, ← hs1]⟩
            rw [hl1] at h8 hlend ⊢
            rw [hs1] at HB hlend
            have HXd := Aside0.mk h8
            clear hl1 hs1 h8
            have hdl : ld.length ≤ 1073741824 := by omega
            have kb := fun (W : World) (y : ByteArray) => print_bytes (P := Try.prog) 9 22 5 Try.underlying9 Try.underlying22 Try.underlying5 y W
            obtain ⟨yd, hyd⟩ : ∃ q, strOfNums ld = q := ⟨_, rfl⟩
            have HYD : Aside0 (bytesOf yd = ld) := ⟨by rw [← hyd]; exact bytesOf_strOfNums HXd.out⟩
            have hys : yd.size = ld.length := by rw [← hyd]; exact strOfNums_len ld
            rw [hyd]
            clear hyd
            have kb := kb w30 yd
            have HBb := Aside0.mk (HB.out.bytes yd)
            have hfq := blk_frozen HBb.out.bx 2
            have hcq := blk_cell HBb.out.bx 2
            go_upto_region 23 with fail
            have HDX : Aside0 (DF (fun k => w1.heap.size ≤ k ∧ k < ((Lib.bytesWorld w30 5 yd).setCell ⟨q, 2, none⟩ (.slice (some ⟨w30.heap.size, 0, none⟩) yd.size (grownCap w30 yd.size 0 5))).heap.size) ((Lib.bytesWorld w30 5 yd).setCell ⟨q, 2, none⟩ (.slice (some ⟨w30.heap.size, 0, none⟩) yd.size (grownCap w30 yd.size 0 5))) (some ⟨w30.heap.size, 0, none⟩) ld) := ⟨by have := DF_box (w1 := w1) (W := w30) (y := yd) (q := q) (by omega) (blk_lt HB.out.bx) HB.out.kp.1 (.slice (some ⟨w30.heap.size, 0, none⟩) yd.size (grownCap w30 yd.size 0 5)); rw [HYD.out] at this; exact this⟩
            have HBn : Aside0 (BR w0 w1 ((Lib.bytesWorld w30 5 yd).setCell ⟨q, 2, none⟩ (.slice (some ⟨w30.heap.size, 0, none⟩) yd.size (grownCap w30 yd.size 0 5))) g q sd (n + 1) #[.int .i64 1, .bool true, .slice (some ⟨w30.heap.size, 0, none⟩) yd.size (grownCap w30 yd.size 0 5), .slice none 0 0, .slice none 0 0]) := ⟨by simpa using HBb.out.set 2 (.slice (some ⟨w30.heap.size, 0, none⟩) yd.size (grownCap w30 yd.size 0 5))⟩
            have hcap : ld.length ≤ grownCap w30 yd.size 0 5 := by rw [← hys]; exact grownCap_ge _ _ _ _
            clear HB HBb hfq hcq kb
            have HB := HBn
            clear HBn
            rw [hys] at HB HDX hcap
            generalize hww : ((Lib.bytesWorld w30 5 yd).setCell ⟨q, 2, none⟩ (.slice (some ⟨w30.heap.size, 0, none⟩) ld.length (grownCap w30 ld.length 0 5))) = w31 at *
            obtain ⟨Ad, hAd⟩ : ∃ z : Option Addr, (some ⟨w30.heap.size, 0, none⟩ : Option Addr) = z := ⟨_, rfl⟩
            obtain ⟨cd, hcd⟩ : ∃ z, grownCap w30 ld.length 0 5 = z := ⟨_, rfl⟩
            rw [hAd, hcd] at HB ⊢
            rw [hAd] at HDX
            rw [hcd] at hcap
            clear hAd hcd hww
            have HD := Aside0.mk (And.intro HDX.out (And.intro HG1.out hcap))
            clear HDX
            go_wp2_with fail
            refine (must_any w0 w31 g sd (n + 1) sR HB.out.rd (by omega)).mono ?_
            rintro e_ w32 ⟨rfl, hr, hk⟩
            have HBn := Aside0.mk (HB.out.keep hr hk)
            have HDn := Aside0.mk (dat_keep HD.out.1 hk HD.out.2.1)
            clear HB hr hk
            have HB := HBn
            clear HBn
            have HDn2 := Aside0.mk (And.intro HDn.out HD.out.2)
            clear HD HDn
            have HD := HDn2
            clear HDn2
            have hlse := wd1_len sd sR
            obtain ⟨se, hs9⟩ : ∃ q, wd1 sd sR = q := ⟨_, rfl⟩
            have HSse := Aside0.mk hs9
            rw [hs9] at HB hlse
            clear hs9
            obtain ⟨x0, x1, x2, x3, x4⟩ := cells5 HB.out.bx
            have HTT := Aside0.mk (HTB.out.trans (by rw [regS_of HA.out (if_neg (fun h => HZ0.out h.1)) HSd.out (by rw [wdS_cons, HSse.out])]))
            have HE := Aside0.mk (BR.fin HP1.out HB.out)
            obtain ⟨b0, b1, b2, b3, b4⟩ := cells5 HE.out.bx
            have f0 := blk_frozen HE.out.bx 0
            have f1 := blk_frozen HE.out.bx 1
            have f2 := blk_frozen HE.out.bx 2
            have f3 := blk_frozen HE.out.bx 3
            have f4 := blk_frozen HE.out.bx 4
            have HF := Aside0.mk (HE.out.same (.int .i64 1) (.bool true) (.slice Ad ld.length cd) (.slice none 0 0) (.slice none 0 0))
            have HKF := Aside0.mk (KF_five (a := (.int .i64 1)) (b := (.bool true)) (c := (.slice Ad ld.length cd)) (d := (.slice none 0 0)) (e := (.slice none 0 0)) (p := p) (w := w) (KF_data (k := 1) (ex := true) HD.out.1 HD.out.2.2) HPL.out.1 HPL.out.2)
            have HG := Aside0.mk (data_G (k := 1) (ex := true) (F := F) (by decide) HXd.out hdl)
            go_wp2_with fail
            exact bodyPost_ret (results_cell_row rfl _ _ p 26 _ (0, 0) _ rfl HF.out.bx Try.underlying26 rfl (by kernel_rfl)) rfl (NR_post HTT.out HKF.out HG.out HF.out.rd HF.out.kp)
        · have e_sExec : (yx.toList == [101, 120, 101, 99, 117, 116, 97, 98, 108, 101]) = false := by simpa using fun h => hxe ((hsix sExec _ rfl).1 h)
          have HA : Aside0 ((if (txS sk).2.2 = 0 ∧ (txS sk).1 = bytesOf sExec then (true, (txS (wdS (txS sk).2 [sEmpty])).1, (txS (wdS (txS sk).2 [sEmpty])).2) else (false, (txS sk).1, (txS sk).2) : Bool × List Int × RS) = (false, lx, sx)) := ⟨by rw [HSx.out]; simp only; rw [if_neg (fun h => hxe h.2)]⟩
          clear hxe
          have hz0 := hx0
          have e_x : (sx.2 == 0) = true := by simp [hx0]
          clear hx0
          have e_z : (sx.2 == 0) = true := by simp [hz0]
          have HZ0 := Aside0.mk hz0
          by_cases hcc : lx = bytesOf sCont
          · have e_sCont : (yx.toList == [99, 111, 110, 116, 101, 110, 116, 115]) = true := by rw [(hsix sCont _ rfl).2 hcc]; simp
            have HCC := Aside0.mk hcc
            clear hcc
            go_wp2_with fail
            refine (rtext_any w0 w8 g sx (n + 1) HB.out.rd (by omega)).mono ?_
            rintro e_ w34 ⟨rfl, hr, hk, h8⟩
            have HBn := Aside0.mk (HB.out.keep hr hk)
            clear HB hr hk
            have HB := HBn
            clear HBn
            have hlend := txS_len sx
            obtain ⟨ld, hl1⟩ : ∃ q, (txS sx).1 = q := ⟨_, rfl⟩
            obtain ⟨sd, hs1⟩ : ∃ q, (txS sx).2 = q := ⟨_, rfl⟩
            have HSd : Aside0 (txS sx = (ld, sd)) := ⟨by rw [← hl1, ← hs1]⟩
            rw [hl1] at h8 hlend ⊢
            rw [hs1] at HB hlend
            have HXd := Aside0.mk h8
            clear hl1 hs1 h8
            have hdl : ld.length ≤ 1073741824 := by omega
            have kb := fun (W : World) (y : ByteArray) => print_bytes (P := Try.prog) 9 22 5 Try.underlying9 Try.underlying22 Try.underlying5 y W
            obtain ⟨yd, hyd⟩ : ∃ q, strOfNums ld = q := ⟨_, rfl⟩
            have HYD : Aside0 (bytesOf yd = ld) := ⟨by rw [← hyd]; exact bytesOf_strOfNums HXd.out⟩
            have hys : yd.size = ld.length := by rw [← hyd]; exact strOfNums_len ld
            rw [hyd]
            clear hyd
            have kb := kb w34 yd
            have HBb := Aside0.mk (HB.out.bytes yd)
            have hfq := blk_frozen HBb.out.bx 2
            have hcq := blk_cell HBb.out.bx 2
            go_upto_region 23 with fail
            have HDX : Aside0 (DF (fun k => w1.heap.size ≤ k ∧ k < ((Lib.bytesWorld w34 5 yd).setCell ⟨q, 2, none⟩ (.slice (some ⟨w34.heap.size, 0, none⟩) yd.size (grownCap w34 yd.size 0 5))).heap.size) ((Lib.bytesWorld w34 5 yd).setCell ⟨q, 2, none⟩ (.slice (some ⟨w34.heap.size, 0, none⟩) yd.size (grownCap w34 yd.size 0 5))) (some ⟨w34.heap.size, 0, none⟩) ld) := ⟨by have := DF_box (w1 := w1) (W := w34) (y := yd) (q := q) (by omega) (blk_lt HB.out.bx) HB.out.kp.1 (.slice (some ⟨w34.heap.size, 0, none⟩) yd.size (grownCap w34 yd.size 0 5)); rw [HYD.out] at this; exact this⟩
            have HBn : Aside0 (BR w0 w1 ((Lib.bytesWorld w34 5 yd).setCell ⟨q, 2, none⟩ (.slice (some ⟨w34.heap.size, 0, none⟩) yd.size (grownCap w34 yd.size 0 5))) g q sd (n + 1) #[.int .i64 1, .bool false, .slice (some ⟨w34.heap.size, 0, none⟩) yd.size (grownCap w34 yd.size 0 5), .slice none 0 0, .slice none 0 0]) := ⟨by simpa using HBb.out.set 2 (.slice (some ⟨w34.heap.size, 0, none⟩) yd.size (grownCap w34 yd.size 0 5))⟩
            have hcap : ld.length ≤ grownCap w34 yd.size 0 5 := by rw [← hys]; exact grownCap_ge _ _ _ _
            clear HB HBb hfq hcq kb
            have HB := HBn
            clear HBn
            rw [hys] at HB HDX hcap
            generalize hww : ((Lib.bytesWorld w34 5 yd).setCell ⟨q, 2, none⟩ (.slice (some ⟨w34.heap.size, 0, none⟩) ld.length (grownCap w34 ld.length 0 5))) = w35 at *
            obtain ⟨Ad, hAd⟩ : ∃ z : Option Addr, (some ⟨w34.heap.size, 0, none⟩ : Option Addr) = z := ⟨_, rfl⟩
            obtain ⟨cd, hcd⟩ : ∃ z, grownCap w34 ld.length 0 5 = z := ⟨_, rfl⟩
            rw [hAd, hcd] at HB ⊢
            rw [hAd] at HDX
            rw [hcd] at hcap
            clear hAd hcd hww
            have HD := Aside0.mk (And.intro HDX.out (And.intro HG1.out hcap))
            clear HDX
            go_wp2_with fail
            refine (must_any w0 w35 g sd (n + 1) sR HB.out.rd (by omega)).mono ?_
            rintro e_ w36 ⟨rfl, hr, hk⟩
            have HBn := Aside0.mk (HB.out.keep hr hk)
            have HDn := Aside0.mk (dat_keep HD.out.1 hk HD.out.2.1)
            clear HB hr hk
            have HB := HBn
            clear HBn
            have HDn2 := Aside0.mk (And.intro HDn.out HD.out.2)
            clear HD HDn
            have HD := HDn2
            clear HDn2
            have hlse := wd1_len sd sR
            obtain ⟨se, hs9⟩ : ∃ q, wd1 sd sR = q := ⟨_, rfl⟩
            have HSse := Aside0.mk hs9
            rw [hs9] at HB hlse
            clear hs9
            obtain ⟨x0, x1, x2, x3, x4⟩ := cells5 HB.out.bx
            have HTT := Aside0.mk (HTB.out.trans (by rw [regS_of HA.out (if_neg (fun h => h.2 HCC.out)) HSd.out (by rw [wdS_cons, HSse.out])]))
            have HE := Aside0.mk (BR.fin HP1.out HB.out)
            obtain ⟨b0, b1, b2, b3, b4⟩ := cells5 HE.out.bx
            have f0 := blk_frozen HE.out.bx 0
            have f1 := blk_frozen HE.out.bx 1
            have f2 := blk_frozen HE.out.bx 2
            have f3 := blk_frozen HE.out.bx 3
            have f4 := blk_frozen HE.out.bx 4
            have HF := Aside0.mk (HE.out.same (.int .i64 1) (.bool false) (.slice Ad ld.length cd) (.slice none 0 0) (.slice none 0 0))
            have HKF := Aside0.mk (KF_five (a := (.int .i64 1)) (b := (.bool false)) (c := (.slice Ad ld.length cd)) (d := (.slice none 0 0)) (e := (.slice none 0 0)) (p := p) (w := w) (KF_data (k := 1) (ex := false) HD.out.1 HD.out.2.2) HPL.out.1 HPL.out.2)
            have HG := Aside0.mk (data_G (k := 1) (ex := false) (F := F) (by decide) HXd.out hdl)
            go_wp2_with fail
            exact bodyPost_ret (results_cell_row rfl _ _ p 26 _ (0, 0) _ rfl HF.out.bx Try.underlying26 rfl (by kernel_rfl)) rfl (NR_post HTT.out HKF.out HG.out HF.out.rd HF.out.kp)
          · have e_sCont : (yx.toList == [99, 111, 110, 116, 101, 110, 116, 115]) = false := by simpa using fun h => hcc ((hsix sCont _ rfl).1 h)
            have HCC := Aside0.mk (And.intro HZ0.out hcc)
            clear hcc
            go_upto_region 22 with fail
            have HBn := Aside0.mk (HB.out.keep (HB.out.rd.err 3) (KeepBut.set_ (KeepBut.refl w8 g none) 1 (.int .i64 3)))
            clear HB pe qe
            have HB := HBn
            clear HBn
            generalize (w8.setCell ⟨g, 1, none⟩ (.int .i64 3)) = w38 at *
            obtain ⟨s3, hs3⟩ : ∃ q : RS, (sx.1, (3 : Int)) = q := ⟨_, rfl⟩
            have HS3 := Aside0.mk hs3
            have hl3 : s3.1.length = sx.1.length := by rw [← hs3]
            rw [hs3] at HB
            clear hs3
            go_wp2_with fail
            refine (rtext_any w0 w38 g s3 (n + 1) HB.out.rd (by omega)).mono ?_
            rintro e_ w39 ⟨rfl, hr, hk, h8⟩
            have HBn := Aside0.mk (HB.out.keep hr hk)
            clear HB hr hk
            have HB := HBn
            clear HBn
            have hlend := txS_len s3
            obtain ⟨ld, hl1⟩ : ∃ q, (txS s3).1 = q := ⟨_, rfl⟩
            obtain ⟨sd, hs1⟩ : ∃ q, (txS s3).2 = q := ⟨_, rfl⟩
            have HSd : Aside0 (txS s3 = (ld, sd)) := ⟨by rw [← hl1, ← hs1]⟩
            rw [hl1] at h8 hlend ⊢
            rw [hs1] at HB hlend
            have HXd := Aside0.mk h8
            clear hl1 hs1 h8
            have hdl : ld.length ≤ 1073741824 := by omega
            have kb := fun (W : World) (y : ByteArray) => print_bytes (P := Try.prog) 9 22 5 Try.underlying9 Try.underlying22 Try.underlying5 y W
            obtain ⟨yd, hyd⟩ : ∃ q, strOfNums ld = q := ⟨_, rfl⟩
            have HYD : Aside0 (bytesOf yd = ld) := ⟨by rw [← hyd]; exact bytesOf_strOfNums HXd.out⟩
            have hys : yd.size = ld.length := by rw [← hyd]; exact strOfNums_len ld
            rw [hyd]
            clear hyd
            have kb := kb w39 yd
            have HBb := Aside0.mk (HB.out.bytes yd)
            have hfq := blk_frozen HBb.out.bx 2
            have hcq := blk_cell HBb.out.bx 2
            go_upto_region 23 with fail
            have HDX : Aside0 (DF (fun k => w1.heap.size ≤ k ∧ k < ((Lib.bytesWorld w39 5 yd).setCell ⟨q, 2, none⟩ (.slice (some ⟨w39.heap.size, 0, none⟩) yd.size (grownCap w39 yd.size 0 5))).heap.size) ((Lib.bytesWorld w39 5 yd).setCell ⟨q, 2, none⟩ (.slice (some ⟨w39.heap.size, 0, none⟩) yd.size (grownCap w39 yd.size 0 5))) (some ⟨w39.heap.size, 0, none⟩) ld) := ⟨by have := DF_box (w1 := w1) (W := w39) (y := yd) (q := q) (by omega) (blk_lt HB.out.bx) HB.out.kp.1 (.slice (some ⟨w39.heap.size, 0, none⟩) yd.size (grownCap w39 yd.size 0 5)); rw [HYD.out] at this; exact this⟩
            have HBn : Aside0 (BR w0 w1 ((Lib.bytesWorld w39 5 yd).setCell ⟨q, 2, none⟩ (.slice (some ⟨w39.heap.size, 0, none⟩) yd.size (grownCap w39 yd.size 0 5))) g q sd (n + 1) #[.int .i64 1, .bool false, .slice (some ⟨w39.heap.size, 0, none⟩) yd.size (grownCap w39 yd.size 0 5), .slice none 0 0, .slice none 0 0]) := ⟨by simpa using HBb.out.set 2 (.slice (some ⟨w39.heap.size, 0, none⟩) yd.size (grownCap w39 yd.size 0 5))⟩
            have hcap : ld.length ≤ grownCap w39 yd.size 0 5 := by rw [← hys]; exact grownCap_ge _ _ _ _
            clear HB HBb hfq hcq kb
            have HB := HBn
            clear HBn
            rw [hys] at HB HDX hcap
            generalize hww : ((Lib.bytesWorld w39 5 yd).setCell ⟨q, 2, none⟩ (.slice (some ⟨w39.heap.size, 0, none⟩) ld.length (grownCap w39 ld.length 0 5))) = w40 at *
            obtain ⟨Ad, hAd⟩ : ∃ z : Option Addr, (some ⟨w39.heap.size, 0, none⟩ : Option Addr) = z := ⟨_, rfl⟩
            obtain ⟨cd, hcd⟩ : ∃ z, grownCap w39 ld.length 0 5 = z := ⟨_, rfl⟩
            rw [hAd, hcd] at HB ⊢
            rw [hAd] at HDX
            rw [hcd] at hcap
            clear hAd hcd hww
            have HD := Aside0.mk (And.intro HDX.out (And.intro HG1.out hcap))
            clear HDX
            go_wp2_with fail
            refine (must_any w0 w40 g sd (n + 1) sR HB.out.rd (by omega)).mono ?_
            rintro e_ w41 ⟨rfl, hr, hk⟩
            have HBn := Aside0.mk (HB.out.keep hr hk)
            have HDn := Aside0.mk (dat_keep HD.out.1 hk HD.out.2.1)
            clear HB hr hk
            have HB := HBn
            clear HBn
            have HDn2 := Aside0.mk (And.intro HDn.out HD.out.2)
            clear HD HDn
            have HD := HDn2
            clear HDn2
            have hlse := wd1_len sd sR
            obtain ⟨se, hs9⟩ : ∃ q, wd1 sd sR = q := ⟨_, rfl⟩
            have HSse := Aside0.mk hs9
            rw [hs9] at HB hlse
            clear hs9
            obtain ⟨x0, x1, x2, x3, x4⟩ := cells5 HB.out.bx
            have HTT := Aside0.mk (HTB.out.trans (by rw [regS_of HA.out (by rw [if_pos HCC.out]; exact HS3.out) HSd.out (by rw [wdS_cons, HSse.out])]))
            have HE := Aside0.mk (BR.fin HP1.out HB.out)
            obtain ⟨b0, b1, b2, b3, b4⟩ := cells5 HE.out.bx
            have f0 := blk_frozen HE.out.bx 0
            have f1 := blk_frozen HE.out.bx 1
            have f2 := blk_frozen HE.out.bx 2
            have f3 := blk_frozen HE.out.bx 3
            have f4 := blk_frozen HE.out.bx 4
            have HF := Aside0.mk (HE.out.same (.int .i64 1) (.bool false) (.slice Ad ld.length cd) (.slice none 0 0) (.slice none 0 0))
            have HKF := Aside0.mk (KF_five (a := (.int .i64 1)) (b := (.bool false)) (c := (.slice Ad ld.length cd)) (d := (.slice none 0 0)) (e := (.slice none 0 0)) (p := p) (w := w) (KF_data (k := 1) (ex := false) HD.out.1 HD.out.2.2) HPL.out.1 HPL.out.2)
            have HG := Aside0.mk (data_G (k := 1) (ex := false) (F := F) (by decide) HXd.out hdl)
            go_wp2_with fail
            exact bodyPost_ret (results_cell_row rfl _ _ p 26 _ (0, 0) _ rfl HF.out.bx Try.underlying26 rfl (by kernel_rfl)) rfl (NR_post HTT.out HKF.out HG.out HF.out.rd HF.out.kp)
      · have e_x : (sx.2 == 0) = false := by simpa using hx0
        have HA : Aside0 ((if (txS sk).2.2 = 0 ∧ (txS sk).1 = bytesOf sExec then (true, (txS (wdS (txS sk).2 [sEmpty])).1, (txS (wdS (txS sk).2 [sEmpty])).2) else (false, (txS sk).1, (txS sk).2) : Bool × List Int × RS) = (false, lx, sx)) := ⟨by rw [HSx.out]; simp only; rw [if_neg (fun h => hx0 h.1)]⟩
        have hz0 := hx0
        clear hx0
        have e_z : (sx.2 == 0) = false := by simpa using hz0
        have HZ0 := Aside0.mk hz0
        go_wp2_with fail
        refine (rtext_any w0 w8 g sx (n + 1) HB.out.rd (by omega)).mono ?_
        rintro e_ w56 ⟨rfl, hr, hk, h8⟩
        have HBn := Aside0.mk (HB.out.keep hr hk)
        clear HB hr hk
        have HB := HBn
        clear HBn
        have hlend := txS_len sx
        obtain ⟨ld, hl1⟩ : ∃ q, (txS sx).1 = q := ⟨_, rfl⟩
        obtain ⟨sd, hs1⟩ : ∃ q, (txS sx).2 = q := ⟨_, rfl⟩
        have HSd : Aside0 (txS sx = (ld, sd)) := ⟨by rw [← hl1, ← hs1]⟩
        rw [hl1] at h8 hlend ⊢
        rw [hs1] at HB hlend
        have HXd := Aside0.mk h8
        clear hl1 hs1 h8
        have hdl : ld.length ≤ 1073741824 := by omega
        have kb := fun (W : World) (y : ByteArray) => print_bytes (P := Try.prog) 9 22 5 Try.underlying9 Try.underlying22 Try.underlying5 y W
        obtain ⟨yd, hyd⟩ : ∃ q, strOfNums ld = q := ⟨_, rfl⟩
        have HYD : Aside0 (bytesOf yd = ld) := ⟨by rw [← hyd]; exact bytesOf_strOfNums HXd.out⟩
        have hys : yd.size = ld.length := by rw [← hyd]; exact strOfNums_len ld
        rw [hyd]
        clear hyd
        have kb := kb w56 yd
        have HBb := Aside0.mk (HB.out.bytes yd)
        have hfq := blk_frozen HBb.out.bx 2
        have hcq := blk_cell HBb.out.bx 2
        go_upto_region 23 with fail
        have HDX : Aside0 (DF (fun k => w1.heap.size ≤ k ∧ k < ((Lib.bytesWorld w56 5 yd).setCell ⟨q, 2, none⟩ (.slice (some ⟨w56.heap.size, 0, none⟩) yd.size (grownCap w56 yd.size 0 5))).heap.size) ((Lib.bytesWorld w56 5 yd).setCell ⟨q, 2, none⟩ (.slice (some ⟨w56.heap.size, 0, none⟩) yd.size (grownCap w56 yd.size 0 5))) (some ⟨w56.heap.size, 0, none⟩) ld) := ⟨by have := DF_box (w1 := w1) (W := w56) (y := yd) (q := q) (by omega) (blk_lt HB.out.bx) HB.out.kp.1 (.slice (some ⟨w56.heap.size, 0, none⟩) yd.size (grownCap w56 yd.size 0 5)); rw [HYD.out] at this; exact this⟩
        have HBn : Aside0 (BR w0 w1 ((Lib.bytesWorld w56 5 yd).setCell ⟨q, 2, none⟩ (.slice (some ⟨w56.heap.size, 0, none⟩) yd.size (grownCap w56 yd.size 0 5))) g q sd (n + 1) #[.int .i64 1, .bool false, .slice (some ⟨w56.heap.size, 0, none⟩) yd.size (grownCap w56 yd.size 0 5), .slice none 0 0, .slice none 0 0]) := ⟨by simpa using HBb.out.set 2 (.slice (some ⟨w56.heap.size, 0, none⟩) yd.size (grownCap w56 yd.size 0 5))⟩
        have hcap : ld.length ≤ grownCap w56 yd.size 0 5 := by rw [← hys]; exact grownCap_ge _ _ _ _
        clear HB HBb hfq hcq kb
        have HB := HBn
        clear HBn
        rw [hys] at HB HDX hcap
        generalize hww : ((Lib.bytesWorld w56 5 yd).setCell ⟨q, 2, none⟩ (.slice (some ⟨w56.heap.size, 0, none⟩) ld.length (grownCap w56 ld.length 0 5))) = w57 at *
        obtain ⟨Ad, hAd⟩ : ∃ z : Option Addr, (some ⟨w56.heap.size, 0, none⟩ : Option Addr) = z := ⟨_, rfl⟩
        obtain ⟨cd, hcd⟩ : ∃ z, grownCap w56 ld.length 0 5 = z := ⟨_, rfl⟩
        rw [hAd, hcd] at HB ⊢
        rw [hAd] at HDX
        rw [hcd] at hcap
        clear hAd hcd hww
        have HD := Aside0.mk (And.intro HDX.out (And.intro HG1.out hcap))
        clear HDX
        go_wp2_with fail
        refine (must_any w0 w57 g sd (n + 1) sR HB.out.rd (by omega)).mono ?_
        rintro e_ w58 ⟨rfl, hr, hk⟩
        have HBn := Aside0.mk (HB.out.keep hr hk)
        have HDn := Aside0.mk (dat_keep HD.out.1 hk HD.out.2.1)
        clear HB hr hk
        have HB := HBn
        clear HBn
        have HDn2 := Aside0.mk (And.intro HDn.out HD.out.2)
        clear HD HDn
        have HD := HDn2
        clear HDn2
        have hlse := wd1_len sd sR
        obtain ⟨se, hs9⟩ : ∃ q, wd1 sd sR = q := ⟨_, rfl⟩
        have HSse := Aside0.mk hs9
        rw [hs9] at HB hlse
        clear hs9
        obtain ⟨x0, x1, x2, x3, x4⟩ := cells5 HB.out.bx
        have HTT := Aside0.mk (HTB.out.trans (by rw [regS_of HA.out (if_neg (fun h => HZ0.out h.1)) HSd.out (by rw [wdS_cons, HSse.out])]))
        have HE := Aside0.mk (BR.fin HP1.out HB.out)
        obtain ⟨b0, b1, b2, b3, b4⟩ := cells5 HE.out.bx
        have f0 := blk_frozen HE.out.bx 0
        have f1 := blk_frozen HE.out.bx 1
        have f2 := blk_frozen HE.out.bx 2
        have f3 := blk_frozen HE.out.bx 3
        have f4 := blk_frozen HE.out.bx 4
        have HF := Aside0.mk (HE.out.same (.int .i64 1) (.bool false) (.slice Ad ld.length cd) (.slice none 0 0) (.slice none 0 0))
        have HKF := Aside0.mk (KF_five (a := (.int .i64 1)) (b := (.bool false)) (c := (.slice Ad ld.length cd)) (d := (.slice none 0 0)) (e := (.slice none 0 0)) (p := p) (w := w) (KF_data (k := 1) (ex := false) HD.out.1 HD.out.2.2) HPL.out.1 HPL.out.2)
        have HG := Aside0.mk (data_G (k := 1) (ex := false) (F := F) (by decide) HXd.out hdl)
        go_wp2_with fail
        exact bodyPost_ret (results_cell_row rfl _ _ p 26 _ (0, 0) _ rfl HF.out.bx Try.underlying26 rfl (by kernel_rfl)) rfl (NR_post HTT.out HKF.out HG.out HF.out.rd HF.out.kp)
    · by_cases hsym : lk = bytesOf sSym
      · have e_sReg : (yk.toList == [114, 101, 103, 117, 108, 97, 114]) = false := by simpa using fun h => hreg ((hsik sReg _ rfl).1 h)
        have e_sSym : (yk.toList == [115, 121, 109, 108, 105, 110, 107]) = true := by rw [(hsik sSym _ rfl).2 hsym]; simp
        have HTB : Aside0 (T = (⟨3, false, (symS sk).1, [], []⟩, (symS sk).2, n + 1)) := ⟨HTQ.out.trans (by rw [if_neg hk1, if_neg hreg, if_pos hsym])⟩
        clear hreg hsym HTQ
        have hfq := blk_frozen HB.out.bx 0
        have hcq := blk_cell HB.out.bx 0
        go_upto_region 26 with fail
        have HBn : Aside0 (BR w0 w1 (w6.setCell ⟨q, 0, none⟩ (.int .i64 3)) g q sk (n + 1) #[.int .i64 3, .bool false, .slice none 0 0, .slice none 0 0, .slice none 0 0]) := ⟨by simpa using HB.out.set 0 (.int .i64 3)⟩
        clear HB hfq hcq
        have HB := HBn
        clear HBn
        generalize (w6.setCell ⟨q, 0, none⟩ (.int .i64 3)) = w7 at *
        clear pe qe
        go_wp2_with fail
        refine (must_any w0 w7 g sk (n + 1) sTarget HB.out.rd (by omega)).mono ?_
        rintro e_ w8 ⟨rfl, hr, hk⟩
        have HBn := Aside0.mk (HB.out.keep hr hk)
        clear HB hr hk
        have HB := HBn
        clear HBn
        have hlsv := wd1_len sk sTarget
        obtain ⟨sv, hs9⟩ : ∃ q, wd1 sk sTarget = q := ⟨_, rfl⟩
        have HSsv := Aside0.mk hs9
        rw [hs9] at HB hlsv
        clear hs9
        go_wp2_with fail
        refine (rtext_any w0 w8 g sv (n + 1) HB.out.rd (by omega)).mono ?_
        rintro e_ w60 ⟨rfl, hr, hk, h8⟩
        have HBn := Aside0.mk (HB.out.keep hr hk)
        clear HB hr hk
        have HB := HBn
        clear HBn
        have hlend := txS_len sv
        obtain ⟨ld, hl1⟩ : ∃ q, (txS sv).1 = q := ⟨_, rfl⟩
        obtain ⟨sd, hs1⟩ : ∃ q, (txS sv).2 = q := ⟨_, rfl⟩
        have HSd : Aside0 (txS sv = (ld, sd)) := ⟨by rw [← hl1, ← hs1]⟩
        rw [hl1] at h8 hlend ⊢
        rw [hs1] at HB hlend
        have HXd := Aside0.mk h8
        clear hl1 hs1 h8
        have hdl : ld.length ≤ 1073741824 := by omega
        have kb := fun (W : World) (y : ByteArray) => print_bytes (P := Try.prog) 9 22 5 Try.underlying9 Try.underlying22 Try.underlying5 y W
        obtain ⟨yd, hyd⟩ : ∃ q, strOfNums ld = q := ⟨_, rfl⟩
        have HYD : Aside0 (bytesOf yd = ld) := ⟨by rw [← hyd]; exact bytesOf_strOfNums HXd.out⟩
        have hys : yd.size = ld.length := by rw [← hyd]; exact strOfNums_len ld
        rw [hyd]
        clear hyd
        have kb := kb w60 yd
        have HBb := Aside0.mk (HB.out.bytes yd)
        have hfq := blk_frozen HBb.out.bx 2
        have hcq := blk_cell HBb.out.bx 2
        go_upto_region 28 with fail
        have HDX : Aside0 (DF (fun k => w1.heap.size ≤ k ∧ k < ((Lib.bytesWorld w60 5 yd).setCell ⟨q, 2, none⟩ (.slice (some ⟨w60.heap.size, 0, none⟩) yd.size (grownCap w60 yd.size 0 5))).heap.size) ((Lib.bytesWorld w60 5 yd).setCell ⟨q, 2, none⟩ (.slice (some ⟨w60.heap.size, 0, none⟩) yd.size (grownCap w60 yd.size 0 5))) (some ⟨w60.heap.size, 0, none⟩) ld) := ⟨by have := DF_box (w1 := w1) (W := w60) (y := yd) (q := q) (by omega) (blk_lt HB.out.bx) HB.out.kp.1 (.slice (some ⟨w60.heap.size, 0, none⟩) yd.size (grownCap w60 yd.size 0 5)); rw [HYD.out] at this; exact this⟩
        have HBn : Aside0 (BR w0 w1 ((Lib.bytesWorld w60 5 yd).setCell ⟨q, 2, none⟩ (.slice (some ⟨w60.heap.size, 0, none⟩) yd.size (grownCap w60 yd.size 0 5))) g q sd (n + 1) #[.int .i64 3, .bool false, .slice (some ⟨w60.heap.size, 0, none⟩) yd.size (grownCap w60 yd.size 0 5), .slice none 0 0, .slice none 0 0]) := ⟨by simpa using HBb.out.set 2 (.slice (some ⟨w60.heap.size, 0, none⟩) yd.size (grownCap w60 yd.size 0 5))⟩
        have hcap : ld.length ≤ grownCap w60 yd.size 0 5 := by rw [← hys]; exact grownCap_ge _ _ _ _
        clear HB HBb hfq hcq kb
        have HB := HBn
        clear HBn
        rw [hys] at HB HDX hcap
        generalize hww : ((Lib.bytesWorld w60 5 yd).setCell ⟨q, 2, none⟩ (.slice (some ⟨w60.heap.size, 0, none⟩) ld.length (grownCap w60 ld.length 0 5))) = w61 at *
        obtain ⟨Ad, hAd⟩ : ∃ z : Option Addr, (some ⟨w60.heap.size, 0, none⟩ : Option Addr) = z := ⟨_, rfl⟩
        obtain ⟨cd, hcd⟩ : ∃ z, grownCap w60 ld.length 0 5 = z := ⟨_, rfl⟩
        rw [hAd, hcd] at HB ⊢
        rw [hAd] at HDX
        rw [hcd] at hcap
        clear hAd hcd hww
        have HD := Aside0.mk (And.intro HDX.out (And.intro HG1.out hcap))
        clear HDX
        go_wp2_with fail
        refine (must_any w0 w61 g sd (n + 1) sR HB.out.rd (by omega)).mono ?_
        rintro e_ w62 ⟨rfl, hr, hk⟩
        have HBn := Aside0.mk (HB.out.keep hr hk)
        have HDn := Aside0.mk (dat_keep HD.out.1 hk HD.out.2.1)
        clear HB hr hk
        have HB := HBn
        clear HBn
        have HDn2 := Aside0.mk (And.intro HDn.out HD.out.2)
        clear HD HDn
        have HD := HDn2
        clear HDn2
        have hlse := wd1_len sd sR
        obtain ⟨se, hs9⟩ : ∃ q, wd1 sd sR = q := ⟨_, rfl⟩
        have HSse := Aside0.mk hs9
        rw [hs9] at HB hlse
        clear hs9
        obtain ⟨x0, x1, x2, x3, x4⟩ := cells5 HB.out.bx
        have HTT := Aside0.mk (HTB.out.trans (by rw [symS_of (s1 := sv) (by rw [wdS_cons, HSsv.out]; rfl) HSd.out (by rw [wdS_cons, HSse.out])]))
        have HE := Aside0.mk (BR.fin HP1.out HB.out)
        obtain ⟨b0, b1, b2, b3, b4⟩ := cells5 HE.out.bx
        have f0 := blk_frozen HE.out.bx 0
        have f1 := blk_frozen HE.out.bx 1
        have f2 := blk_frozen HE.out.bx 2
        have f3 := blk_frozen HE.out.bx 3
        have f4 := blk_frozen HE.out.bx 4
        have HF := Aside0.mk (HE.out.same (.int .i64 3) (.bool false) (.slice Ad ld.length cd) (.slice none 0 0) (.slice none 0 0))
        have HKF := Aside0.mk (KF_five (a := (.int .i64 3)) (b := (.bool false)) (c := (.slice Ad ld.length cd)) (d := (.slice none 0 0)) (e := (.slice none 0 0)) (p := p) (w := w) (KF_data (k := 3) (ex := false) HD.out.1 HD.out.2.2) HPL.out.1 HPL.out.2)
        have HG := Aside0.mk (data_G (k := 3) (ex := false) (F := F) (by decide) HXd.out hdl)
        go_wp2_with fail
        exact bodyPost_ret (results_cell_row rfl _ _ p 26 _ (0, 0) _ rfl HF.out.bx Try.underlying26 rfl (by kernel_rfl)) rfl (NR_post HTT.out HKF.out HG.out HF.out.rd HF.out.kp)
      · by_cases hdir : lk = bytesOf sDir
        · exact absurd (by rw [HSW.out, HSk.out]; exact hdir) (HND.out (by rw [HSW.out, HSk.out]; exact hk0))
        · have e_sReg : (yk.toList == [114, 101, 103, 117, 108, 97, 114]) = false := by simpa using fun h => hreg ((hsik sReg _ rfl).1 h)
          have e_sSym : (yk.toList == [115, 121, 109, 108, 105, 110, 107]) = false := by simpa using fun h => hsym ((hsik sSym _ rfl).1 h)
          have e_sDir : (yk.toList == [100, 105, 114, 101, 99, 116, 111, 114, 121]) = false := by simpa using fun h => hdir ((hsik sDir _ rfl).1 h)
          have HTB : Aside0 (T = (z0, (sk.1, 3), n + 1)) := ⟨HTQ.out.trans (by rw [if_neg hk1, if_neg hreg, if_neg hsym, if_neg hdir])⟩
          clear hreg hsym hdir HTQ
          go_upto_region 44 with fail
          have HBn := Aside0.mk (HB.out.keep (HB.out.rd.err 3) (KeepBut.set_ (KeepBut.refl w6 g none) 1 (.int .i64 3)))
          clear HB pe qe
          have HB := HBn
          clear HBn
          generalize (w6.setCell ⟨g, 1, none⟩ (.int .i64 3)) = w7 at *
          obtain ⟨x0, x1, x2, x3, x4⟩ := cells5 HB.out.bx
          have HTT := Aside0.mk (HTB.out)
          have HE := Aside0.mk (BR.fin HP1.out HB.out)
          obtain ⟨b0, b1, b2, b3, b4⟩ := cells5 HE.out.bx
          have f0 := blk_frozen HE.out.bx 0
          have f1 := blk_frozen HE.out.bx 1
          have f2 := blk_frozen HE.out.bx 2
          have f3 := blk_frozen HE.out.bx 3
          have f4 := blk_frozen HE.out.bx 4
          have HF := Aside0.mk (HE.out.same (.int .i64 0) (.bool false) (.slice none 0 0) (.slice none 0 0) (.slice none 0 0))
          have HKF := Aside0.mk (KF_five (a := (.int .i64 0)) (b := (.bool false)) (c := (.slice none 0 0)) (d := (.slice none 0 0)) (e := (.slice none 0 0)) (p := p) (w := w) (KF_z0 _ w7) HPL.out.1 HPL.out.2)
          have HG := Aside0.mk (GT_z0 F)
          go_wp2_with fail
          exact bodyPost_ret (results_cell_row rfl _ _ p 26 _ (0, 0) _ rfl HF.out.bx Try.underlying26 rfl (by kernel_rfl)) rfl (NR_post HTT.out HKF.out HG.out HF.out.rd HF.out.kp)
  · have hkb : (sk.2 != 0) = true := by simpa using hk0
    obtain ⟨x0, x1, x2, x3, x4⟩ := cells5 HB.out.bx
    have HTT := Aside0.mk (HTQ.out.trans (if_pos hk0))
    have HE := Aside0.mk (BR.fin HP1.out HB.out)
    obtain ⟨b0, b1, b2, b3, b4⟩ := cells5 HE.out.bx
    have f0 := blk_frozen HE.out.bx 0
    have f1 := blk_frozen HE.out.bx 1
    have f2 := blk_frozen HE.out.bx 2
    have f3 := blk_frozen HE.out.bx 3
    have f4 := blk_frozen HE.out.bx 4
    have HF := Aside0.mk (HE.out.same (.int .i64 0) (.bool false) (.slice none 0 0) (.slice none 0 0) (.slice none 0 0))
    have HKF := Aside0.mk (KF_five (a := (.int .i64 0)) (b := (.bool false)) (c := (.slice none 0 0)) (d := (.slice none 0 0)) (e := (.slice none 0 0)) (p := p) (w := w) (KF_z0 _ w6) HPL.out.1 HPL.out.2)
    have HG := Aside0.mk (GT_z0 F)
    go_wp2_with fail
    exact bodyPost_ret (results_cell_row rfl _ _ p 26 _ (0, 0) _ rfl HF.out.bx Try.underlying26 rfl (by kernel_rfl)) rfl (NR_post HTT.out HKF.out HG.out HF.out.rd HF.out.kp)
end Go.Proofs.Ythhajkmeadapgaa.Tree
