/- tree: put, walked. Own work; printed by gen_pu.py. -/
import Derived.Test.YtfnofjcdaghniaaDoorPuJ
namespace Go.Proofs.YtfnofjcdaghniaaDoor.Tree
set_option linter.unusedVariables false
set_option linter.unusedSimpArgs false
open Go.RowKit Go.Proofs.YtfnofjcdaghniaaDoor.PL Go.Proofs.YtfnofjcdaghniaaDoor.Mt Go.Proofs.YtfnofjcdaghniaaDoorW.PrintWords Go.Proofs.YtfnofjcdaghniaaDoorW.PrintLast Go.Proofs.YtfnofjcdaghniaaDoorW.PrintMore
set_option maxRecDepth 20000 in
set_option maxHeartbeats 8000000 in
theorem put_dir_t (n : ByteArray) (l : List ByteArray) (N M : Nat) (t x : S26) (T2 : Option Addr) (e2 : Nat) (T3 : Option Addr) (e3 : Nat) (T4 : Option Addr) (e4 : Nat) (A2 : Option Addr) (c2 : Nat) (A3 : Option Addr) (c3 : Nat) (A4 : Option Addr) (c4 : Nat) (LA : Option Addr) (lc : Nat) (w0 w : World) (h2 : t.f0 = 2) (hl : l.length ≤ 1000000) (hB : Below w0.heap.size w0 w)
    (ht : TR w0 t T2 e2 T3 e3 T4 e4) (hx : TR w0 x A2 c2 A3 c3 A4 c4) (hL : Kd.string.C w0 LA (n :: l).length (n :: l)) (hlc : (n :: l).length ≤ lc) (ho : Okt (N + 1) t) (hhas : hasS t.f3 n = true)
    (ih : ∀ (N : Nat) (t x : S26) (T2 : Option Addr) (e2 : Nat) (T3 : Option Addr) (e3 : Nat) (T4 : Option Addr) (e4 : Nat) (A2 : Option Addr) (c2 : Nat) (A3 : Option Addr) (c3 : Nat) (A4 : Option Addr) (c4 : Nat) (LA : Option Addr) (lc : Nat) (w : World), Below w0.heap.size w0 w → TR w0 t T2 e2 T3 e3 T4 e4 → TR w0 x A2 c2 A3 c3 A4 c4 → Kd.string.C w0 LA l.length l → l.length ≤ lc → Okt (N + 1) t →
      Calls Tryd.prog 33 #[TV t T2 e2 T3 e3 T4 e4, .slice LA l.length lc, TV x A2 c2 A3 c3 A4 c4] w (PutP w0 w (putS l t x))) :
    Calls Tryd.prog 33 #[TV t T2 e2 T3 e3 T4 e4, .slice LA (l.length + 1) lc, TV x A2 c2 A3 c3 A4 c4] w (PutP w0 w (putS (n :: l) t x)) := by
  have IH := Aside0.mk ih
  have HH := Aside0.mk hhas
  have HX := Aside0.mk (And.intro ht (And.intro hx hL))
  have HBW := Aside0.mk hB
  have HO := Aside0.mk ho
  have hk : (t.f0 != 2) = false := by simp [h2]
  have hl0 : (((l.length : Nat) : Int) + 1 == 0) = false := beq_eq_false_iff_ne.2 (by omega)
  have hlc : l.length + 1 ≤ lc := hlc
  have HC3 := Aside0.mk (And.intro ht.2.2.2.1 ht.2.2.1)
  have hl3 := ho.2.2.1
  obtain ⟨ad, hA, hcn⟩ := Kd.at_string hL (0 : Int) (by omega) (by rw [List.length_cons]; omega)
  subst hA
  have hrn : rdOf ByteArray.empty (n :: l) (0 : Int) = n := rfl
  rw [hrn] at hcn
  have HCN := Aside0.mk hcn
  have H2 := Aside0.mk h2
  clear ih hhas ht hx hL ho hcn hrn h2 hB
  have HW := Aside0.mk (PW.enter w t x T2 e2 T3 e3 T4 e4 A2 c2 A3 c3 A4 c4)
  go_enter Tryd.func33, Tryd.ntmps33
  go_upto_region 1 with fail
  generalize (((w.alloc (bx t T2 e2 T3 e3 T4 e4)).alloc (bx x A2 c2 A3 c3 A4 c4)).alloc (.cells #[.int .i64 0, .bool false, .slice none 0 0, .slice none 0 0, .slice none 0 0] 26)) = w3 at *
  obtain ⟨a, ha⟩ : ∃ q, w.heap.size = q := ⟨_, rfl⟩
  rw [ha] at HW ⊢
  clear ha
  obtain ⟨b, hb⟩ : ∃ q, a + 1 = q := ⟨_, rfl⟩
  rw [hb] at HW ⊢
  clear hb
  obtain ⟨c, hc⟩ : ∃ q, b + 1 = q := ⟨_, rfl⟩
  rw [hc] at HW ⊢
  clear hc
  have hc0 : w3.cell? ad = some (.string n) := by have h9 := pw_cell_below (below_then HBW.out HBW.out.size HW.out.bel) HCN.out; rw [show (0 : Int).toNat = 0 from rfl, add0] at h9; exact h9
  have hb9 : (0 : Int) < (l.length : Int) + 1 := by omega
  obtain ⟨x0, x1, x2, x3, x4⟩ := cells5 HW.out.ba
  go_upto_region 5 with fail
  have HQ := fun m => bs_quiet (l := t.f3) (n := n) T3 e3 w3 HO.out.2.1 (by omega) (Kd.C_below HC3.out.1 (below_then HBW.out HBW.out.size HW.out.bel)) HC3.out.2 m
  obtain ⟨i, hi⟩ : ∃ q, posS t.f3 n = q := ⟨_, rfl⟩
  obtain ⟨h, hh⟩ : ∃ q, hasS t.f3 n = q := ⟨_, rfl⟩
  rw [hi, hh] at HQ
  have HQ := Aside0.mk HQ
  have HI := Aside0.mk (And.intro hi hh)
  clear hi hh
  go_quiet ((go_at_call 38; with_reducible exact HQ.out _))
  obtain rfl : h = true := HI.out.2.symm.trans HH.out
  have HAT : Aside0 (∀ W : World, Below w.heap.size w W → W.cell? ad = some (.string n)) := ⟨fun W hW => by have h9 := pw_cell_below (below_then HBW.out HBW.out.size hW) HCN.out; rw [show (0 : Int).toNat = 0 from rfl, add0] at h9; exact h9⟩
  have HWq := Aside0.mk (HW.out.step (pw_below_drewN (Below.refl _ w3) nq))
  clear HQ hc0 x0 x1 x2 x3 x4 HW
  generalize (w3.drewN nq) = w4 at *
  have hb5 := below_alloc (Below.refl w4.heap.size w4) (.cells #[.int .i64 2, .bool false, .slice none 0 0, .slice none 0 0, .slice none 0 0] 26)
  have HD5 := Aside0.mk (heap_alloc_new w4 (.cells #[.int .i64 2, .bool false, .slice none 0 0, .slice none 0 0, .slice none 0 0] 26))
  have HW5 := Aside0.mk (HWq.out.step hb5)
  have HDN : Aside0 (w4.heap.size ≠ a ∧ w4.heap.size ≠ b ∧ w4.heap.size ≠ c ∧ w.heap.size ≤ w4.heap.size) := ⟨by have := blk_lt HWq.out.ba; have := blk_lt HWq.out.bb; have := blk_lt HWq.out.bc; have := HWq.out.bel.size; omega⟩
  clear hb5 HWq
  go_upto_region 7 with fail
  generalize (w4.alloc (.cells #[.int .i64 2, .bool false, .slice none 0 0, .slice none 0 0, .slice none 0 0] 26)) = w5 at *
  obtain ⟨d, hd⟩ : ∃ q, w4.heap.size = q := ⟨_, rfl⟩
  rw [hd] at HD5 HDN ⊢
  clear hd
  have h1le : (1 : Int) ≤ (l.length : Int) + 1 := by omega
  obtain ⟨LB, hLB⟩ : ∃ q : Option Addr, (if lc = 1 then some ad else some ⟨ad.block, ad.off + 1, none⟩) = q := ⟨_, rfl⟩
  have HLB : Aside0 (Kd.string.C w0 LB l.length l) := ⟨by
    have h9 := Kd.C_drop (m := 1) HX.out.2.2 (by rw [List.length_cons]; omega) (c := lc) hlc
    rw [← hLB]
    split
    · rename_i h8; rw [if_pos h8] at h9; exact h9
    · rename_i h8; rw [if_neg h8] at h9; exact h9⟩
  have hil : i < t.f4.length := by
    have h1 := HI.out.1
    have h2 := HI.out.2
    have h3 := HO.out.1
    unfold hasS at h2
    rw [h1] at h2
    have := (List.getElem?_eq_some_iff.1 (of_decide_eq_true h2)).1
    omega
  obtain ⟨ad4, B2, d2, B3, d3, B4, d4, hA4, e0, e1, e2_, e3_, e4_, r1, r2, r3, r4, r5, r6⟩ := at_T26 HX.out.1.2.2.2.2.2 (i : Int) (by omega) (by omega)
  obtain ⟨u, hu⟩ : ∃ x, rd_T26 t.f4 (i : Int) = x := ⟨_, rfl⟩
  have hue : t.f4[i] = u := by rw [← hu, rdT hil]
  rw [hu] at e0 e1 e2_ e3_ e4_ r1 r2 r3 r4 r5 r6
  rw [Int.toNat_natCast] at e0 e1 e2_ e3_ e4_
  have HTU : Aside0 (TR w0 u B2 d2 B3 d3 B4 d4) := ⟨⟨r1, r2, r3, r4, r5, r6⟩⟩
  have HU : Aside0 (t.f4.getD i dir0 = u) := ⟨by rw [List.getD_eq_getElem?_getD, List.getElem?_eq_getElem hil]; exact hue⟩
  obtain ⟨N', hN'⟩ : ∃ q, N = q + 1 := ⟨N - 1, by
    have h1 := HO.out.2.2.2 _ (List.getElem_mem hil)
    cases N with
    | zero => exact h1.elim
    | succ q => omega⟩
  have HOU : Aside0 (Okt (N' + 1) u) := ⟨by rw [← hue, ← hN']; exact HO.out.2.2.2 _ (List.getElem_mem hil)⟩
  subst hA4
  have g0 := pw_cell_below (below_then HBW.out HBW.out.size HW5.out.bel) e0
  have g1 := pw_cell_below (below_then HBW.out HBW.out.size HW5.out.bel) e1
  have g2 := pw_cell_below (below_then HBW.out HBW.out.size HW5.out.bel) e2_
  have g3 := pw_cell_below (below_then HBW.out HBW.out.size HW5.out.bel) e3_
  have g4 := pw_cell_below (below_then HBW.out HBW.out.size HW5.out.bel) e4_
  clear hue hu e0 e1 e2_ e3_ e4_ r1 r2 r3 r4 r5 r6
  obtain ⟨x0, x1, x2, x3, x4⟩ := cells5 HW5.out.ba
  obtain ⟨b0, b1, b2, b3, b4⟩ := cells5 HD5.out
  have f0 := blk_frozen HD5.out 0
  have f1 := blk_frozen HD5.out 1
  have f2 := blk_frozen HD5.out 2
  have f3 := blk_frozen HD5.out 3
  have f4 := blk_frozen HD5.out 4
  have HD6 := Aside0.mk (box_same HD5.out (.int .i64 u.f0) (.bool u.f1) (.slice B2 u.f2.length d2) (.slice B3 u.f3.length d3) (.slice B4 u.f4.length d4))
  have HW6 := Aside0.mk (HW5.out.setd HDN.out.1 HDN.out.2.1 HDN.out.2.2.1 HDN.out.2.2.2 (.int .i64 u.f0) (.bool u.f1) (.slice B2 u.f2.length d2) (.slice B3 u.f3.length d3) (.slice B4 u.f4.length d4))
  have hil4 : (i : Int) < (t.f4.length : Int) := by omega
  go_upto_region 9 with fail
  generalize (((((w5.setCell ⟨d, 0, none⟩ (.int .i64 u.f0)).setCell ⟨d, 1, none⟩ (.bool u.f1)).setCell ⟨d, 2, none⟩ (.slice B2 u.f2.length d2)).setCell ⟨d, 3, none⟩ (.slice B3 u.f3.length d3)).setCell ⟨d, 4, none⟩ (.slice B4 u.f4.length d4)) = w6 at *
  clear g0 g1 g2 g3 g4 x0 x1 x2 x3 x4 b0 b1 b2 b3 b4 f0 f1 f2 f3 f4
  have HWd := Aside0.mk (HW6.out.step (below_drew (Below.refl _ w6)))
  have HDd : Aside0 (w6.drew.heap[d]? = some (.cells #[(.int .i64 u.f0), (.bool u.f1), (.slice B2 u.f2.length d2), (.slice B3 u.f3.length d3), (.slice B4 u.f4.length d4)] 26 (0, 0))) := ⟨HD6.out⟩
  obtain ⟨x0, x1, x2, x3, x4⟩ := cells5 HWd.out.bb
  obtain ⟨b0, b1, b2, b3, b4⟩ := cells5 HDd.out
  refine start_ (n := 10) (S := fun w' => w'.cell? ⟨d, 0, none⟩ = some (.int .i64 u.f0) ∧ w'.cell? ⟨d, 1, none⟩ = some (.bool u.f1) ∧ w'.cell? ⟨d, 2, none⟩ = some (.slice B2 u.f2.length d2) ∧ w'.cell? ⟨d, 3, none⟩ = some (.slice B3 u.f3.length d3) ∧ w'.cell? ⟨d, 4, none⟩ = some (.slice B4 u.f4.length d4) ∧ w'.cell? ⟨b, 0, none⟩ = some (.int .i64 x.f0) ∧ w'.cell? ⟨b, 1, none⟩ = some (.bool x.f1) ∧ w'.cell? ⟨b, 2, none⟩ = some (.slice A2 x.f2.length c2) ∧ w'.cell? ⟨b, 3, none⟩ = some (.slice A3 x.f3.length c3) ∧ w'.cell? ⟨b, 4, none⟩ = some (.slice A4 x.f4.length c4)) (ds := [8]) #[false, false, false, false, false, false, false, false, false, false] (by kernel_rfl) rfl rfl ⟨b0, b1, b2, b3, b4, x0, x1, x2, x3, x4⟩ (fun hHeld => ?_)
  obtain ⟨wz, hwz⟩ : ∃ q, w6.drew = q := ⟨_, rfl⟩
  rw [hwz] at HWd HDd hHeld ⊢
  clear hwz x0 x1 x2 x3 x4 b0 b1 b2 b3 b4 HW5 HD5 HW6 HD6
  refine pure_ (i := 1) (N := some 38) (v := ?_) (a' := ?_) #[false, true, false, false, false, false, false, false, false, false] rfl rfl (by kernel_rfl) (fun _ _ _ h => h) (Or.inl ⟨by rfl, ?_⟩) ?_ ?_
  rotate_left
  · intro w'
    go_simp
    with_reducible rfl
  rotate_left
  · simp only [Act.put, List.setIfInBounds_toArray, List.set_cons_zero, List.set_cons_succ]
    rfl
  refine pure_ (i := 2) (N := some 39) (v := ?_) (a' := ?_) #[false, true, true, false, false, false, false, false, false, false] rfl rfl (by kernel_rfl) (fun _ _ _ h => h) (Or.inl ⟨by rfl, ?_⟩) ?_ ?_
  rotate_left
  · intro w'
    go_simp
    with_reducible rfl
  rotate_left
  · simp only [Act.put, List.setIfInBounds_toArray, List.set_cons_zero, List.set_cons_succ]
    rfl
  refine take_ (i := 0) (N := some 37) (v := ?_) (a' := ?_) #[true, true, true, false, false, false, false, false, false, false] rfl rfl (by kernel_rfl) (fun _ _ _ h => h) (Or.inl ⟨by rfl, ?_⟩) hHeld ?_ ?_
  rotate_left
  · rintro w' ⟨s0, s1, s2, s3, s4, s5, s6, s7, s8, s9⟩
    go_simp
    with_reducible rfl
  rotate_left
  · simp only [Act.put, List.setIfInBounds_toArray, List.set_cons_zero, List.set_cons_succ]
    rfl
  refine take_ (i := 3) (N := some 40) (v := ?_) (a' := ?_) #[true, true, true, true, false, false, false, false, false, false] rfl rfl (by kernel_rfl) (fun _ _ _ h => h) (Or.inl ⟨by rfl, ?_⟩) hHeld ?_ ?_
  rotate_left
  · rintro w' ⟨s0, s1, s2, s3, s4, s5, s6, s7, s8, s9⟩
    go_simp
    with_reducible rfl
  rotate_left
  · simp only [Act.put, List.setIfInBounds_toArray, List.set_cons_zero, List.set_cons_succ]
    rfl
  refine one_ (i := 4) (N := some 41) #[true, true, true, true, true, false, false, false, false, false] rfl rfl (by kernel_rfl) (by decide) (fun K hK => ?_)
  go_simp
  obtain ⟨⟨r, k⟩, hr⟩ : ∃ q, putS l u x = q := ⟨_, rfl⟩
  have IHc := IH.out N' u x B2 d2 B3 d3 B4 d4 A2 c2 A3 c3 A4 c4 LB (lc - 1) wz (below_then HBW.out HBW.out.size HWd.out.bel) HTU.out HX.out.2.1 HLB.out (by omega) HOU.out
  rw [hr] at IHc
  have HR := Aside0.mk hr
  clear hr
  refine IHc.mono ?_
  clear IHc
  rintro e w7 ⟨G2, g2, G3, g3, G4, g4, rfl, hkg, hb7⟩
  simp only [TV]
  have HZ : Aside0 (a < wz.heap.size ∧ b < wz.heap.size ∧ c < wz.heap.size ∧ d < wz.heap.size) := ⟨blk_lt HWd.out.ba, blk_lt HWd.out.bb, blk_lt HWd.out.bc, blk_lt HDd.out⟩
  have HW7 := Aside0.mk (HWd.out.step hb7)
  have HD7 := Aside0.mk ((hb7.block _ (blk_lt HDd.out)).trans HDd.out)
  have HKG := Aside0.mk hkg
  have HB7 := Aside0.mk hb7.size
  clear hkg hb7 HWd HDd
  refine hK.out _ _ ⟨(blk_cell HD7.out 0).trans rfl, (blk_cell HD7.out 1).trans rfl, (blk_cell HD7.out 2).trans rfl, (blk_cell HD7.out 3).trans rfl, (blk_cell HD7.out 4).trans rfl, (blk_cell HW7.out.bb 0).trans rfl, (blk_cell HW7.out.bb 1).trans rfl, (blk_cell HW7.out.bb 2).trans rfl, (blk_cell HW7.out.bb 3).trans rfl, (blk_cell HW7.out.bb 4).trans rfl⟩ (fun hHeld => ?_)
  clear hK K
  refine pure_ (i := 5) (N := some 36) (v := ?_) (a' := ?_) #[true, true, true, true, true, true, false, false, false, false] rfl rfl (by kernel_rfl) (fun _ _ _ h => h) (Or.inl ⟨by rfl, ?_⟩) ?_ ?_
  rotate_left
  · intro w'
    go_simp
    with_reducible rfl
  rotate_left
  · simp only [Act.put, List.setIfInBounds_toArray, List.set_cons_zero, List.set_cons_succ]
    rfl
  refine pure_ (i := 6) (N := some 42) (v := ?_) (a' := ?_) #[true, true, true, true, true, true, true, false, false, false] rfl rfl (by kernel_rfl) (fun _ _ _ h => h) (Or.inl ⟨by rfl, ?_⟩) ?_ ?_
  rotate_left
  · intro w'
    go_simp
    with_reducible rfl
  rotate_left
  · simp only [Act.put, List.setIfInBounds_toArray, List.set_cons_zero, List.set_cons_succ]
    rfl
  refine pure_ (i := 7) (N := some 43) (v := ?_) (a' := ?_) #[true, true, true, true, true, true, true, true, false, false] rfl rfl (by kernel_rfl) (fun _ _ _ h => h) (Or.inl ⟨by rfl, ?_⟩) ?_ ?_
  rotate_left
  · intro w'
    go_simp
    with_reducible rfl
  rotate_left
  · simp only [Act.put, List.setIfInBounds_toArray, List.set_cons_zero, List.set_cons_succ]
    rfl
  refine last_ (i := 8) (N := none) #[true, true, true, true, true, true, true, true, true, false] rfl rfl (by kernel_rfl) (by decide) (fun K hK => ?_)
  obtain ⟨b0, b1, b2, b3, b4⟩ := cells5 HD7.out
  have f0 := blk_frozen HD7.out 0
  have f1 := blk_frozen HD7.out 1
  have f2 := blk_frozen HD7.out 2
  have f3 := blk_frozen HD7.out 3
  have f4 := blk_frozen HD7.out 4
  go_simp
  clear b0 b1 b2 b3 b4 f0 f1 f2 f3 f4
  refine hK.out _ _ ?_
  clear hK K
  have HQ : Aside0 (QW w (((((w7.setCell ⟨d, 0, none⟩ (.int .i64 r.f0)).setCell ⟨d, 1, none⟩ (.bool r.f1)).setCell ⟨d, 2, none⟩ (.slice G2 r.f2.length g2)).setCell ⟨d, 3, none⟩ (.slice G3 r.f3.length g3)).setCell ⟨d, 4, none⟩ (.slice G4 r.f4.length g4)) w0.heap.size wz.heap.size w7.heap.size a b c d _ _ _ r (cs5 r G2 g2 G3 g3 G4 g4) (.slice none 0 0) (.slice none 0 0) [] []) := ⟨{ pw := HW7.out.setd HDN.out.1 HDN.out.2.1 HDN.out.2.2.1 HDN.out.2.2.2 _ _ _ _ _, bd := box_same HD7.out _ _ _ _ _, ne := ⟨HDN.out.1, HDN.out.2.1, HDN.out.2.2.1⟩, hi := HZ.out, lo := ⟨HBW.out.size, HDN.out.2.2.2, HB7.out⟩, sz := (Fr.box (D := fun _ => False) w7 d _ _ _ _ _ (fun _ h => h.elim)).size, kg := HKG.out.move (Fr.box w7 d _ _ _ _ _ (fun k hk => by have := HZ.out; have := HDN.out; have := HBW.out.size; omega)), rn := Kd.R_nil _ _ _ _ _, rk := Kd.R_nil _ _ _ _ _ }⟩
  obtain ⟨nz, hnz⟩ : ∃ q, wz.heap.size = q := ⟨_, rfl⟩
  obtain ⟨n7, hn7⟩ : ∃ q, w7.heap.size = q := ⟨_, rfl⟩
  rw [hnz, hn7] at HQ
  clear HW7 HD7 HKG HB7 HZ hHeld hnz hn7
  generalize (((((w7.setCell ⟨d, 0, none⟩ (.int .i64 r.f0)).setCell ⟨d, 1, none⟩ (.bool r.f1)).setCell ⟨d, 2, none⟩ (.slice G2 r.f2.length g2)).setCell ⟨d, 3, none⟩ (.slice G3 r.f3.length g3)).setCell ⟨d, 4, none⟩ (.slice G4 r.f4.length g4)) = w8 at *
  refine pure_ (i := 9) (N := some 11) (v := ?_) (a' := ?_) #[true, true, true, true, true, true, true, true, true, true] rfl rfl (by kernel_rfl) (fun _ _ _ h => h) (Or.inl ⟨by rfl, ?_⟩) ?_ ?_
  rotate_left
  · intro w'
    go_simp
    with_reducible rfl
  rotate_left
  · simp only [Act.put, List.setIfInBounds_toArray, List.set_cons_zero, List.set_cons_succ]
    rfl
  refine done_ (by kernel_rfl) ?_
  by_cases hk0 : k = 0
  rotate_left
  · skip
    have hkb : (k != 0) = true := by simpa using hk0
    obtain ⟨b0, b1, b2, b3, b4⟩ := cells5 HQ.out.pw.bc
    have f0 := blk_frozen HQ.out.pw.bc 0
    have f1 := blk_frozen HQ.out.pw.bc 1
    have f2 := blk_frozen HQ.out.pw.bc 2
    have f3 := blk_frozen HQ.out.pw.bc 3
    have f4 := blk_frozen HQ.out.pw.bc 4
    have HF := Aside0.mk (HQ.out.pw.setc (.int .i64 0) (.bool false) (.slice none 0 0) (.slice none 0 0) (.slice none 0 0))
    have HP := Aside0.mk (putS_err_t H2.out HH.out (by rw [HI.out.1]; exact HU.out) HR.out hk0)
    clear hk0
    go_wp2_with fail
    refine bodyPost_ret (results_c1 rfl _ _ c 26 _ (0, 0) _ rfl HF.out.bc Tryd.underlying26 rfl (by kernel_rfl)) rfl ?_
    exact PutP.zero HP.out HF.out.bel
  subst hk0
  have hkb : ((0 : Int) != 0) = false := rfl
  go_upto_region 12 with fail
  obtain ⟨css, hcl, hraw, hcs⟩ := kids_raw HX.out.1.2.2.2.2.2
  have HRAW := Aside0.mk hraw
  have HCS := Aside0.mk hcs
  have HOL := Aside0.mk HO.out.1
  have HCL := Aside0.mk hcl
  clear hraw hcs hcl
  have HQ := Aside0.mk (HQ.out.below (below_drew (Below.refl _ w8)))
  refine start_ (n := 10) (S := fun w' => w'.cell? ⟨a, 3, none⟩ = some (.slice T3 t.f3.length e3) ∧ w'.cell? ⟨a, 4, none⟩ = some (.slice (some ad4) t.f4.length e4)) (ds := [7, 9]) #[false, false, false, false, false, false, false, false, false, false] (by kernel_rfl) rfl rfl ⟨(blk_cell HQ.out.pw.ba 3).trans rfl, (blk_cell HQ.out.pw.ba 4).trans rfl⟩ (fun hHeld => ?_)
  generalize w8.drew = w9 at *
  refine pure_ (i := 0) (N := some 48) (v := ?_) (a' := ?_) #[true, false, false, false, false, false, false, false, false, false] rfl rfl (by kernel_rfl) (fun _ _ _ h => h) (Or.inl ⟨by rfl, ?_⟩) ?_ ?_
  rotate_left
  · intro w'
    go_simp
    with_reducible rfl
  rotate_left
  · simp only [Act.put, List.setIfInBounds_toArray, List.set_cons_zero, List.set_cons_succ]
    rfl
  refine pure_ (i := 3) (N := some 51) (v := ?_) (a' := ?_) #[true, false, false, true, false, false, false, false, false, false] rfl rfl (by kernel_rfl) (fun _ _ _ h => h) (Or.inl ⟨by rfl, ?_⟩) ?_ ?_
  rotate_left
  · intro w'
    go_simp
    with_reducible rfl
  rotate_left
  · simp only [Act.put, List.setIfInBounds_toArray, List.set_cons_zero, List.set_cons_succ]
    rfl
  refine take_ (i := 1) (N := some 49) (v := ?_) (a' := ?_) #[true, true, false, true, false, false, false, false, false, false] rfl rfl (by kernel_rfl) (fun _ _ _ h => h) (Or.inl ⟨by rfl, ?_⟩) hHeld ?_ ?_
  rotate_left
  · rintro w' ⟨s0, s1⟩
    go_simp
    with_reducible rfl
  rotate_left
  · simp only [Act.put, List.setIfInBounds_toArray, List.set_cons_zero, List.set_cons_succ]
    rfl
  refine take_ (i := 4) (N := some 52) (v := ?_) (a' := ?_) #[true, true, false, true, true, false, false, false, false, false] rfl rfl (by kernel_rfl) (fun _ _ _ h => h) (Or.inl ⟨by rfl, ?_⟩) hHeld ?_ ?_
  rotate_left
  · rintro w' ⟨s0, s1⟩
    go_simp
    with_reducible rfl
  rotate_left
  · simp only [Act.put, List.setIfInBounds_toArray, List.set_cons_zero, List.set_cons_succ]
    rfl
  refine one_ (i := 2) (N := some 50) #[true, true, true, true, true, false, false, false, false, false] rfl rfl (by kernel_rfl) (by decide) (fun K hK => ?_)
  go_simp
  refine (sclone_any T3 e3 t.f3 w9 (Kd.C_below HC3.out.1 (below_then HBW.out HBW.out.size HQ.out.pw.bel)) (by have := HOL.out; have := HCL.out; omega)).mono ?_
  rintro e w10 ⟨v3, rfl, hr3, hb3⟩
  have HQ := Aside0.mk (HQ.out.n hr3 hb3)
  obtain ⟨S3, q3, rfl⟩ := Kd.R_slice hr3
  clear hr3 hb3
  refine hK.out _ _ ⟨(blk_cell HQ.out.pw.ba 3).trans rfl, (blk_cell HQ.out.pw.ba 4).trans rfl⟩ (fun hHeld => ?_)
  clear hK K
  refine pure_ (i := 6) (N := some 54) (v := ?_) (a' := ?_) #[true, true, true, true, true, false, true, false, false, false] rfl rfl (by kernel_rfl) (fun _ _ _ h => h) (Or.inl ⟨by rfl, ?_⟩) ?_ ?_
  rotate_left
  · intro w'
    go_simp
    with_reducible rfl
  rotate_left
  · simp only [Act.put, List.setIfInBounds_toArray, List.set_cons_zero, List.set_cons_succ]
    rfl
  refine one_ (i := 5) (N := some 53) #[true, true, true, true, true, true, true, false, false, false] rfl rfl (by kernel_rfl) (by decide) (fun K hK => ?_)
  go_simp
  have htc := tclone_any (some ad4) e4 css w10 (Kd.C_below HRAW.out (below_then HBW.out HBW.out.size HQ.out.pw.bel)) (by have := HOL.out; have := HCL.out; omega)
  rw [HCL.out] at htc
  refine htc.mono ?_
  clear htc
  rintro e w11 ⟨v4, rfl, hr4, hb4⟩
  have HQ := Aside0.mk (HQ.out.k hr4 hb4)
  obtain ⟨g, q4, rfl, hg7, hg8, -⟩ := Kd.R_form hr4 (by have := HOL.out; have := HCL.out; omega)
  clear hr4 hb4 hg7 hg8
  refine hK.out _ _ ⟨(blk_cell HQ.out.pw.ba 3).trans rfl, (blk_cell HQ.out.pw.ba 4).trans rfl⟩ (fun hHeld => ?_)
  clear hK K
  refine last_ (i := 7) (N := none) #[true, true, true, true, true, true, true, true, false, false] rfl rfl (by kernel_rfl) (by decide) (fun K hK => ?_)
  have hp3 : w11.cell? ⟨a, 3, none⟩ = some (.slice T3 t.f3.length e3) := (blk_cell HQ.out.pw.ba 3).trans rfl
  have hf3 : w11.frozen? ⟨a, 3, none⟩ = false := blk_frozen HQ.out.pw.ba 3
  go_simp
  clear hp3 hf3
  refine hK.out _ _ ?_
  clear hK K
  have HB4 := Aside0.mk (blk_set HQ.out.pw.ba 3 (.slice S3 t.f3.length q3))
  refine pure_ (i := 8) (N := some 55) (v := ?_) (a' := ?_) #[true, true, true, true, true, true, true, true, true, false] rfl rfl (by kernel_rfl) (fun _ _ _ h => h) (Or.inl ⟨by rfl, ?_⟩) ?_ ?_
  rotate_left
  · intro w'
    go_simp
    with_reducible rfl
  rotate_left
  · simp only [Act.put, List.setIfInBounds_toArray, List.set_cons_zero, List.set_cons_succ]
    rfl
  refine last_ (i := 9) (N := none) #[true, true, true, true, true, true, true, true, true, true] rfl rfl (by kernel_rfl) (by decide) (fun K hK => ?_)
  have hp4 : (w11.setCell ⟨a, 3, none⟩ (.slice S3 t.f3.length q3)).cell? ⟨a, 4, none⟩ = some (.slice (some ad4) t.f4.length e4) := (blk_cell HB4.out 4).trans rfl
  have hf4 : (w11.setCell ⟨a, 3, none⟩ (.slice S3 t.f3.length q3)).frozen? ⟨a, 4, none⟩ = false := blk_frozen HB4.out 4
  go_simp
  clear hp4 hf4
  refine hK.out _ _ ?_
  clear hK K
  refine done_ (by kernel_rfl) ?_
  have HQ := Aside0.mk (HQ.out.set34 (.slice S3 t.f3.length q3) (.slice (some ⟨g, 0, none⟩) css.length q4))
  clear HB4 hHeld
  generalize ((w11.setCell ⟨a, 3, none⟩ (.slice S3 t.f3.length q3)).setCell ⟨a, 4, none⟩ (.slice (some ⟨g, 0, none⟩) css.length q4)) = w12 at *
  obtain ⟨x0, x1, x2, x3, x4⟩ := cells5 HQ.out.pw.ba
  obtain ⟨b0, b1, b2, b3, b4⟩ := cells5 HQ.out.bd
  have hk1 := k26.K_one HQ.out.kg.here
  have hilc : (i : Int) < (css.length : Int) := by have := HOL.out; have := HCL.out; omega
  obtain ⟨⟨p0, g0, h0⟩, ⟨p1, g1, h1⟩, ⟨p2, g2_, h2⟩, ⟨p3, g3_, h3⟩, p4, g4_, h4⟩ := raw_facts HQ.out.rk (i := i) (by omega) (.int .i64 r.f0) (.bool r.f1) (.slice G2 r.f2.length g2) (.slice G3 r.f3.length g3) (.slice G4 r.f4.length g4)
  obtain ⟨c0, c1, c2_, c3_, c4_⟩ := cells5 HQ.out.pw.bc
  have HPUT := Aside0.mk (raw_put HQ.out.rk (i := i) (by omega) hk1)
  clear hk1
  go_upto_region 16 with fail
  clear g0 h0 g1 h1 g2_ h2 g3_ h3 g4_ h4 x0 x1 x2 x3 x4 b0 b1 b2 b3 b4 c0 c1 c2_ c3_ c4_
  have HQ := Aside0.mk (HQ.out.ins4 HPUT.out.1 HPUT.out.2.1 HPUT.out.2.2)
  clear HPUT
  generalize (((((w12.setCell ⟨g, i * 5, none⟩ (.int .i64 r.f0)).setCell ⟨g, i * 5 + 1, none⟩ (.bool r.f1)).setCell ⟨g, i * 5 + 2, none⟩ (.slice G2 r.f2.length g2)).setCell ⟨g, i * 5 + 3, none⟩ (.slice G3 r.f3.length g3)).setCell ⟨g, i * 5 + 4, none⟩ (.slice G4 r.f4.length g4)) = w13 at *
  obtain ⟨x0, x1, x2, x3, x4⟩ := cells5 HQ.out.pw.ba
  obtain ⟨b0, b1, b2, b3, b4⟩ := cells5 HQ.out.pw.bc
  have f0 := blk_frozen HQ.out.pw.bc 0
  have f1 := blk_frozen HQ.out.pw.bc 1
  have f2 := blk_frozen HQ.out.pw.bc 2
  have f3 := blk_frozen HQ.out.pw.bc 3
  have f4 := blk_frozen HQ.out.pw.bc 4
  have HF := Aside0.mk (fun p0 p1 p2 p3 p4 => box_same HQ.out.pw.bc p0 p1 p2 p3 p4)
  go_wp2_with fail
  refine bodyPost_ret (results_c1 rfl _ _ c 26 _ (0, 0) _ rfl (HF.out _ _ _ _ _) Tryd.underlying26 rfl (by kernel_rfl)) rfl ?_
  exact QW.fin' (ks := t.f4.set i r) HQ.out rfl (by simp) HBW.out HX.out.1.2.1 HX.out.1.1 (by simp [HCL.out]) (kids_set i (fun j x c hx hc => .inl (HCS.out j x c hx hc)) (.inr ⟨rfl, rfl⟩)) (by rw [← HI.out.1]; exact putS_ok_t H2.out HH.out (by rw [HI.out.1]; exact HU.out) HR.out)
end Go.Proofs.YtfnofjcdaghniaaDoor.Tree
/- tree: put, walked. Own work; printed by gen_pu.py. -/
namespace Go.Proofs.YtfnofjcdaghniaaDoor.Tree
set_option linter.unusedVariables false
set_option linter.unusedSimpArgs false
open Go.RowKit Go.Proofs.YtfnofjcdaghniaaDoor.PL Go.Proofs.YtfnofjcdaghniaaDoor.Mt Go.Proofs.YtfnofjcdaghniaaDoorW.PrintWords Go.Proofs.YtfnofjcdaghniaaDoorW.PrintLast Go.Proofs.YtfnofjcdaghniaaDoorW.PrintMore
set_option maxRecDepth 20000 in
set_option maxHeartbeats 8000000 in
theorem put_dir_f (n : ByteArray) (l : List ByteArray) (N M : Nat) (t x : S26) (T2 : Option Addr) (e2 : Nat) (T3 : Option Addr) (e3 : Nat) (T4 : Option Addr) (e4 : Nat) (A2 : Option Addr) (c2 : Nat) (A3 : Option Addr) (c3 : Nat) (A4 : Option Addr) (c4 : Nat) (LA : Option Addr) (lc : Nat) (w0 w : World) (h2 : t.f0 = 2) (hl : l.length ≤ 1000000) (hB : Below w0.heap.size w0 w)
    (ht : TR w0 t T2 e2 T3 e3 T4 e4) (hx : TR w0 x A2 c2 A3 c3 A4 c4) (hL : Kd.string.C w0 LA (n :: l).length (n :: l)) (hlc : (n :: l).length ≤ lc) (ho : Okt (N + 1) t) (hhas : hasS t.f3 n = false)
    (ih : ∀ (N : Nat) (t x : S26) (T2 : Option Addr) (e2 : Nat) (T3 : Option Addr) (e3 : Nat) (T4 : Option Addr) (e4 : Nat) (A2 : Option Addr) (c2 : Nat) (A3 : Option Addr) (c3 : Nat) (A4 : Option Addr) (c4 : Nat) (LA : Option Addr) (lc : Nat) (w : World), Below w0.heap.size w0 w → TR w0 t T2 e2 T3 e3 T4 e4 → TR w0 x A2 c2 A3 c3 A4 c4 → Kd.string.C w0 LA l.length l → l.length ≤ lc → Okt (N + 1) t →
      Calls Tryd.prog 33 #[TV t T2 e2 T3 e3 T4 e4, .slice LA l.length lc, TV x A2 c2 A3 c3 A4 c4] w (PutP w0 w (putS l t x))) :
    Calls Tryd.prog 33 #[TV t T2 e2 T3 e3 T4 e4, .slice LA (l.length + 1) lc, TV x A2 c2 A3 c3 A4 c4] w (PutP w0 w (putS (n :: l) t x)) := by
  have IH := Aside0.mk ih
  have HH := Aside0.mk hhas
  have HX := Aside0.mk (And.intro ht (And.intro hx hL))
  have HBW := Aside0.mk hB
  have HO := Aside0.mk ho
  have hk : (t.f0 != 2) = false := by simp [h2]
  have hl0 : (((l.length : Nat) : Int) + 1 == 0) = false := beq_eq_false_iff_ne.2 (by omega)
  have hlc : l.length + 1 ≤ lc := hlc
  have HC3 := Aside0.mk (And.intro ht.2.2.2.1 ht.2.2.1)
  have hl3 := ho.2.2.1
  obtain ⟨ad, hA, hcn⟩ := Kd.at_string hL (0 : Int) (by omega) (by rw [List.length_cons]; omega)
  subst hA
  have hrn : rdOf ByteArray.empty (n :: l) (0 : Int) = n := rfl
  rw [hrn] at hcn
  have HCN := Aside0.mk hcn
  have H2 := Aside0.mk h2
  clear ih hhas ht hx hL ho hcn hrn h2 hB
  have HW := Aside0.mk (PW.enter w t x T2 e2 T3 e3 T4 e4 A2 c2 A3 c3 A4 c4)
  go_enter Tryd.func33, Tryd.ntmps33
  go_upto_region 1 with fail
  generalize (((w.alloc (bx t T2 e2 T3 e3 T4 e4)).alloc (bx x A2 c2 A3 c3 A4 c4)).alloc (.cells #[.int .i64 0, .bool false, .slice none 0 0, .slice none 0 0, .slice none 0 0] 26)) = w3 at *
  obtain ⟨a, ha⟩ : ∃ q, w.heap.size = q := ⟨_, rfl⟩
  rw [ha] at HW ⊢
  clear ha
  obtain ⟨b, hb⟩ : ∃ q, a + 1 = q := ⟨_, rfl⟩
  rw [hb] at HW ⊢
  clear hb
  obtain ⟨c, hc⟩ : ∃ q, b + 1 = q := ⟨_, rfl⟩
  rw [hc] at HW ⊢
  clear hc
  have hc0 : w3.cell? ad = some (.string n) := by have h9 := pw_cell_below (below_then HBW.out HBW.out.size HW.out.bel) HCN.out; rw [show (0 : Int).toNat = 0 from rfl, add0] at h9; exact h9
  have hb9 : (0 : Int) < (l.length : Int) + 1 := by omega
  obtain ⟨x0, x1, x2, x3, x4⟩ := cells5 HW.out.ba
  go_upto_region 5 with fail
  have HQ := fun m => bs_quiet (l := t.f3) (n := n) T3 e3 w3 HO.out.2.1 (by omega) (Kd.C_below HC3.out.1 (below_then HBW.out HBW.out.size HW.out.bel)) HC3.out.2 m
  obtain ⟨i, hi⟩ : ∃ q, posS t.f3 n = q := ⟨_, rfl⟩
  obtain ⟨h, hh⟩ : ∃ q, hasS t.f3 n = q := ⟨_, rfl⟩
  rw [hi, hh] at HQ
  have HQ := Aside0.mk HQ
  have HI := Aside0.mk (And.intro hi hh)
  clear hi hh
  go_quiet ((go_at_call 38; with_reducible exact HQ.out _))
  obtain rfl : h = false := HI.out.2.symm.trans HH.out
  have HAT : Aside0 (∀ W : World, Below w.heap.size w W → W.cell? ad = some (.string n)) := ⟨fun W hW => by have h9 := pw_cell_below (below_then HBW.out HBW.out.size hW) HCN.out; rw [show (0 : Int).toNat = 0 from rfl, add0] at h9; exact h9⟩
  have HWq := Aside0.mk (HW.out.step (pw_below_drewN (Below.refl _ w3) nq))
  clear HQ hc0 x0 x1 x2 x3 x4 HW
  generalize (w3.drewN nq) = w4 at *
  have hb5 := below_alloc (Below.refl w4.heap.size w4) (.cells #[.int .i64 2, .bool false, .slice none 0 0, .slice none 0 0, .slice none 0 0] 26)
  have HD5 := Aside0.mk (heap_alloc_new w4 (.cells #[.int .i64 2, .bool false, .slice none 0 0, .slice none 0 0, .slice none 0 0] 26))
  have HW5 := Aside0.mk (HWq.out.step hb5)
  have HDN : Aside0 (w4.heap.size ≠ a ∧ w4.heap.size ≠ b ∧ w4.heap.size ≠ c ∧ w.heap.size ≤ w4.heap.size) := ⟨by have := blk_lt HWq.out.ba; have := blk_lt HWq.out.bb; have := blk_lt HWq.out.bc; have := HWq.out.bel.size; omega⟩
  clear hb5 HWq
  go_upto_region 7 with fail
  generalize (w4.alloc (.cells #[.int .i64 2, .bool false, .slice none 0 0, .slice none 0 0, .slice none 0 0] 26)) = w5 at *
  obtain ⟨d, hd⟩ : ∃ q, w4.heap.size = q := ⟨_, rfl⟩
  rw [hd] at HD5 HDN ⊢
  clear hd
  have h1le : (1 : Int) ≤ (l.length : Int) + 1 := by omega
  obtain ⟨LB, hLB⟩ : ∃ q : Option Addr, (if lc = 1 then some ad else some ⟨ad.block, ad.off + 1, none⟩) = q := ⟨_, rfl⟩
  have HLB : Aside0 (Kd.string.C w0 LB l.length l) := ⟨by
    have h9 := Kd.C_drop (m := 1) HX.out.2.2 (by rw [List.length_cons]; omega) (c := lc) hlc
    rw [← hLB]
    split
    · rename_i h8; rw [if_pos h8] at h9; exact h9
    · rename_i h8; rw [if_neg h8] at h9; exact h9⟩
  go_upto_region 9 with fail
  have HD6 := HD5
  have HW6 := HW5
  generalize w5 = w6 at *
  have HWd := Aside0.mk (HW6.out.step (below_drew (Below.refl _ w6)))
  have HDd : Aside0 (w6.drew.heap[d]? = some (.cells #[(.int .i64 2), (.bool false), (.slice none 0 0), (.slice none 0 0), (.slice none 0 0)] 26 (0, 0))) := ⟨HD6.out⟩
  obtain ⟨x0, x1, x2, x3, x4⟩ := cells5 HWd.out.bb
  obtain ⟨b0, b1, b2, b3, b4⟩ := cells5 HDd.out
  refine start_ (n := 10) (S := fun w' => w'.cell? ⟨d, 0, none⟩ = some (.int .i64 2) ∧ w'.cell? ⟨d, 1, none⟩ = some (.bool false) ∧ w'.cell? ⟨d, 2, none⟩ = some (.slice none 0 0) ∧ w'.cell? ⟨d, 3, none⟩ = some (.slice none 0 0) ∧ w'.cell? ⟨d, 4, none⟩ = some (.slice none 0 0) ∧ w'.cell? ⟨b, 0, none⟩ = some (.int .i64 x.f0) ∧ w'.cell? ⟨b, 1, none⟩ = some (.bool x.f1) ∧ w'.cell? ⟨b, 2, none⟩ = some (.slice A2 x.f2.length c2) ∧ w'.cell? ⟨b, 3, none⟩ = some (.slice A3 x.f3.length c3) ∧ w'.cell? ⟨b, 4, none⟩ = some (.slice A4 x.f4.length c4)) (ds := [8]) #[false, false, false, false, false, false, false, false, false, false] (by kernel_rfl) rfl rfl ⟨b0, b1, b2, b3, b4, x0, x1, x2, x3, x4⟩ (fun hHeld => ?_)
  obtain ⟨wz, hwz⟩ : ∃ q, w6.drew = q := ⟨_, rfl⟩
  rw [hwz] at HWd HDd hHeld ⊢
  clear hwz x0 x1 x2 x3 x4 b0 b1 b2 b3 b4 HW5 HD5 HW6 HD6
  refine pure_ (i := 1) (N := some 38) (v := ?_) (a' := ?_) #[false, true, false, false, false, false, false, false, false, false] rfl rfl (by kernel_rfl) (fun _ _ _ h => h) (Or.inl ⟨by rfl, ?_⟩) ?_ ?_
  rotate_left
  · intro w'
    go_simp
    with_reducible rfl
  rotate_left
  · simp only [Act.put, List.setIfInBounds_toArray, List.set_cons_zero, List.set_cons_succ]
    rfl
  refine pure_ (i := 2) (N := some 39) (v := ?_) (a' := ?_) #[false, true, true, false, false, false, false, false, false, false] rfl rfl (by kernel_rfl) (fun _ _ _ h => h) (Or.inl ⟨by rfl, ?_⟩) ?_ ?_
  rotate_left
  · intro w'
    go_simp
    with_reducible rfl
  rotate_left
  · simp only [Act.put, List.setIfInBounds_toArray, List.set_cons_zero, List.set_cons_succ]
    rfl
  refine take_ (i := 0) (N := some 37) (v := ?_) (a' := ?_) #[true, true, true, false, false, false, false, false, false, false] rfl rfl (by kernel_rfl) (fun _ _ _ h => h) (Or.inl ⟨by rfl, ?_⟩) hHeld ?_ ?_
  rotate_left
  · rintro w' ⟨s0, s1, s2, s3, s4, s5, s6, s7, s8, s9⟩
    go_simp
    with_reducible rfl
  rotate_left
  · simp only [Act.put, List.setIfInBounds_toArray, List.set_cons_zero, List.set_cons_succ]
    rfl
  refine take_ (i := 3) (N := some 40) (v := ?_) (a' := ?_) #[true, true, true, true, false, false, false, false, false, false] rfl rfl (by kernel_rfl) (fun _ _ _ h => h) (Or.inl ⟨by rfl, ?_⟩) hHeld ?_ ?_
  rotate_left
  · rintro w' ⟨s0, s1, s2, s3, s4, s5, s6, s7, s8, s9⟩
    go_simp
    with_reducible rfl
  rotate_left
  · simp only [Act.put, List.setIfInBounds_toArray, List.set_cons_zero, List.set_cons_succ]
    rfl
  refine one_ (i := 4) (N := some 41) #[true, true, true, true, true, false, false, false, false, false] rfl rfl (by kernel_rfl) (by decide) (fun K hK => ?_)
  go_simp
  obtain ⟨⟨r, k⟩, hr⟩ : ∃ q, putS l dir0 x = q := ⟨_, rfl⟩
  have IHc := IH.out 0 dir0 x none 0 none 0 none 0 A2 c2 A3 c3 A4 c4 LB (lc - 1) wz (below_then HBW.out HBW.out.size HWd.out.bel) (TR_nil w0 2) HX.out.2.1 HLB.out (by omega) Okt_dir0
  rw [hr] at IHc
  have HR := Aside0.mk hr
  clear hr
  refine IHc.mono ?_
  clear IHc
  rintro e w7 ⟨G2, g2, G3, g3, G4, g4, rfl, hkg, hb7⟩
  simp only [TV]
  have HZ : Aside0 (a < wz.heap.size ∧ b < wz.heap.size ∧ c < wz.heap.size ∧ d < wz.heap.size) := ⟨blk_lt HWd.out.ba, blk_lt HWd.out.bb, blk_lt HWd.out.bc, blk_lt HDd.out⟩
  have HW7 := Aside0.mk (HWd.out.step hb7)
  have HD7 := Aside0.mk ((hb7.block _ (blk_lt HDd.out)).trans HDd.out)
  have HKG := Aside0.mk hkg
  have HB7 := Aside0.mk hb7.size
  clear hkg hb7 HWd HDd
  refine hK.out _ _ ⟨(blk_cell HD7.out 0).trans rfl, (blk_cell HD7.out 1).trans rfl, (blk_cell HD7.out 2).trans rfl, (blk_cell HD7.out 3).trans rfl, (blk_cell HD7.out 4).trans rfl, (blk_cell HW7.out.bb 0).trans rfl, (blk_cell HW7.out.bb 1).trans rfl, (blk_cell HW7.out.bb 2).trans rfl, (blk_cell HW7.out.bb 3).trans rfl, (blk_cell HW7.out.bb 4).trans rfl⟩ (fun hHeld => ?_)
  clear hK K
  refine pure_ (i := 5) (N := some 36) (v := ?_) (a' := ?_) #[true, true, true, true, true, true, false, false, false, false] rfl rfl (by kernel_rfl) (fun _ _ _ h => h) (Or.inl ⟨by rfl, ?_⟩) ?_ ?_
  rotate_left
  · intro w'
    go_simp
    with_reducible rfl
  rotate_left
  · simp only [Act.put, List.setIfInBounds_toArray, List.set_cons_zero, List.set_cons_succ]
    rfl
  refine pure_ (i := 6) (N := some 42) (v := ?_) (a' := ?_) #[true, true, true, true, true, true, true, false, false, false] rfl rfl (by kernel_rfl) (fun _ _ _ h => h) (Or.inl ⟨by rfl, ?_⟩) ?_ ?_
  rotate_left
  · intro w'
    go_simp
    with_reducible rfl
  rotate_left
  · simp only [Act.put, List.setIfInBounds_toArray, List.set_cons_zero, List.set_cons_succ]
    rfl
  refine pure_ (i := 7) (N := some 43) (v := ?_) (a' := ?_) #[true, true, true, true, true, true, true, true, false, false] rfl rfl (by kernel_rfl) (fun _ _ _ h => h) (Or.inl ⟨by rfl, ?_⟩) ?_ ?_
  rotate_left
  · intro w'
    go_simp
    with_reducible rfl
  rotate_left
  · simp only [Act.put, List.setIfInBounds_toArray, List.set_cons_zero, List.set_cons_succ]
    rfl
  refine last_ (i := 8) (N := none) #[true, true, true, true, true, true, true, true, true, false] rfl rfl (by kernel_rfl) (by decide) (fun K hK => ?_)
  obtain ⟨b0, b1, b2, b3, b4⟩ := cells5 HD7.out
  have f0 := blk_frozen HD7.out 0
  have f1 := blk_frozen HD7.out 1
  have f2 := blk_frozen HD7.out 2
  have f3 := blk_frozen HD7.out 3
  have f4 := blk_frozen HD7.out 4
  go_simp
  clear b0 b1 b2 b3 b4 f0 f1 f2 f3 f4
  refine hK.out _ _ ?_
  clear hK K
  have HQ : Aside0 (QW w (((((w7.setCell ⟨d, 0, none⟩ (.int .i64 r.f0)).setCell ⟨d, 1, none⟩ (.bool r.f1)).setCell ⟨d, 2, none⟩ (.slice G2 r.f2.length g2)).setCell ⟨d, 3, none⟩ (.slice G3 r.f3.length g3)).setCell ⟨d, 4, none⟩ (.slice G4 r.f4.length g4)) w0.heap.size wz.heap.size w7.heap.size a b c d _ _ _ r (cs5 r G2 g2 G3 g3 G4 g4) (.slice none 0 0) (.slice none 0 0) [] []) := ⟨{ pw := HW7.out.setd HDN.out.1 HDN.out.2.1 HDN.out.2.2.1 HDN.out.2.2.2 _ _ _ _ _, bd := box_same HD7.out _ _ _ _ _, ne := ⟨HDN.out.1, HDN.out.2.1, HDN.out.2.2.1⟩, hi := HZ.out, lo := ⟨HBW.out.size, HDN.out.2.2.2, HB7.out⟩, sz := (Fr.box (D := fun _ => False) w7 d _ _ _ _ _ (fun _ h => h.elim)).size, kg := HKG.out.move (Fr.box w7 d _ _ _ _ _ (fun k hk => by have := HZ.out; have := HDN.out; have := HBW.out.size; omega)), rn := Kd.R_nil _ _ _ _ _, rk := Kd.R_nil _ _ _ _ _ }⟩
  obtain ⟨nz, hnz⟩ : ∃ q, wz.heap.size = q := ⟨_, rfl⟩
  obtain ⟨n7, hn7⟩ : ∃ q, w7.heap.size = q := ⟨_, rfl⟩
  rw [hnz, hn7] at HQ
  clear HW7 HD7 HKG HB7 HZ hHeld hnz hn7
  generalize (((((w7.setCell ⟨d, 0, none⟩ (.int .i64 r.f0)).setCell ⟨d, 1, none⟩ (.bool r.f1)).setCell ⟨d, 2, none⟩ (.slice G2 r.f2.length g2)).setCell ⟨d, 3, none⟩ (.slice G3 r.f3.length g3)).setCell ⟨d, 4, none⟩ (.slice G4 r.f4.length g4)) = w8 at *
  refine pure_ (i := 9) (N := some 11) (v := ?_) (a' := ?_) #[true, true, true, true, true, true, true, true, true, true] rfl rfl (by kernel_rfl) (fun _ _ _ h => h) (Or.inl ⟨by rfl, ?_⟩) ?_ ?_
  rotate_left
  · intro w'
    go_simp
    with_reducible rfl
  rotate_left
  · simp only [Act.put, List.setIfInBounds_toArray, List.set_cons_zero, List.set_cons_succ]
    rfl
  refine done_ (by kernel_rfl) ?_
  by_cases hk0 : k = 0
  rotate_left
  · skip
    have hkb : (k != 0) = true := by simpa using hk0
    obtain ⟨b0, b1, b2, b3, b4⟩ := cells5 HQ.out.pw.bc
    have f0 := blk_frozen HQ.out.pw.bc 0
    have f1 := blk_frozen HQ.out.pw.bc 1
    have f2 := blk_frozen HQ.out.pw.bc 2
    have f3 := blk_frozen HQ.out.pw.bc 3
    have f4 := blk_frozen HQ.out.pw.bc 4
    have HF := Aside0.mk (HQ.out.pw.setc (.int .i64 0) (.bool false) (.slice none 0 0) (.slice none 0 0) (.slice none 0 0))
    have HP := Aside0.mk (putS_err_f H2.out HH.out HR.out hk0)
    clear hk0
    go_wp2_with fail
    refine bodyPost_ret (results_c1 rfl _ _ c 26 _ (0, 0) _ rfl HF.out.bc Tryd.underlying26 rfl (by kernel_rfl)) rfl ?_
    exact PutP.zero HP.out HF.out.bel
  subst hk0
  have hkb : ((0 : Int) != 0) = false := rfl
  go_upto_region 12 with fail
  obtain ⟨css, hcl, hraw, hcs⟩ := kids_raw HX.out.1.2.2.2.2.2
  have HRAW := Aside0.mk hraw
  have HCS := Aside0.mk hcs
  have HOL := Aside0.mk HO.out.1
  have HCL := Aside0.mk hcl
  clear hraw hcs hcl
  have HQ := Aside0.mk (HQ.out.below (below_drew (Below.refl _ w8)))
  refine start_ (n := 10) (S := fun w' => w'.cell? ⟨a, 3, none⟩ = some (.slice T3 t.f3.length e3) ∧ w'.cell? ⟨a, 4, none⟩ = some (.slice T4 t.f4.length e4)) (ds := [7, 9]) #[false, false, false, false, false, false, false, false, false, false] (by kernel_rfl) rfl rfl ⟨(blk_cell HQ.out.pw.ba 3).trans rfl, (blk_cell HQ.out.pw.ba 4).trans rfl⟩ (fun hHeld => ?_)
  generalize w8.drew = w9 at *
  refine pure_ (i := 0) (N := some 48) (v := ?_) (a' := ?_) #[true, false, false, false, false, false, false, false, false, false] rfl rfl (by kernel_rfl) (fun _ _ _ h => h) (Or.inl ⟨by rfl, ?_⟩) ?_ ?_
  rotate_left
  · intro w'
    go_simp
    with_reducible rfl
  rotate_left
  · simp only [Act.put, List.setIfInBounds_toArray, List.set_cons_zero, List.set_cons_succ]
    rfl
  refine pure_ (i := 3) (N := some 51) (v := ?_) (a' := ?_) #[true, false, false, true, false, false, false, false, false, false] rfl rfl (by kernel_rfl) (fun _ _ _ h => h) (Or.inl ⟨by rfl, ?_⟩) ?_ ?_
  rotate_left
  · intro w'
    go_simp
    with_reducible rfl
  rotate_left
  · simp only [Act.put, List.setIfInBounds_toArray, List.set_cons_zero, List.set_cons_succ]
    rfl
  refine take_ (i := 1) (N := some 49) (v := ?_) (a' := ?_) #[true, true, false, true, false, false, false, false, false, false] rfl rfl (by kernel_rfl) (fun _ _ _ h => h) (Or.inl ⟨by rfl, ?_⟩) hHeld ?_ ?_
  rotate_left
  · rintro w' ⟨s0, s1⟩
    go_simp
    with_reducible rfl
  rotate_left
  · simp only [Act.put, List.setIfInBounds_toArray, List.set_cons_zero, List.set_cons_succ]
    rfl
  refine take_ (i := 4) (N := some 52) (v := ?_) (a' := ?_) #[true, true, false, true, true, false, false, false, false, false] rfl rfl (by kernel_rfl) (fun _ _ _ h => h) (Or.inl ⟨by rfl, ?_⟩) hHeld ?_ ?_
  rotate_left
  · rintro w' ⟨s0, s1⟩
    go_simp
    with_reducible rfl
  rotate_left
  · simp only [Act.put, List.setIfInBounds_toArray, List.set_cons_zero, List.set_cons_succ]
    rfl
  refine one_ (i := 2) (N := some 50) #[true, true, true, true, true, false, false, false, false, false] rfl rfl (by kernel_rfl) (by decide) (fun K hK => ?_)
  go_simp
  refine (sclone_any T3 e3 t.f3 w9 (Kd.C_below HC3.out.1 (below_then HBW.out HBW.out.size HQ.out.pw.bel)) (by have := HOL.out; have := HCL.out; omega)).mono ?_
  rintro e w10 ⟨v3, rfl, hr3, hb3⟩
  have HQ := Aside0.mk (HQ.out.n hr3 hb3)
  obtain ⟨S3, q3, rfl⟩ := Kd.R_slice hr3
  clear hr3 hb3
  refine hK.out _ _ ⟨(blk_cell HQ.out.pw.ba 3).trans rfl, (blk_cell HQ.out.pw.ba 4).trans rfl⟩ (fun hHeld => ?_)
  clear hK K
  refine pure_ (i := 6) (N := some 54) (v := ?_) (a' := ?_) #[true, true, true, true, true, false, true, false, false, false] rfl rfl (by kernel_rfl) (fun _ _ _ h => h) (Or.inl ⟨by rfl, ?_⟩) ?_ ?_
  rotate_left
  · intro w'
    go_simp
    with_reducible rfl
  rotate_left
  · simp only [Act.put, List.setIfInBounds_toArray, List.set_cons_zero, List.set_cons_succ]
    rfl
  refine one_ (i := 5) (N := some 53) #[true, true, true, true, true, true, true, false, false, false] rfl rfl (by kernel_rfl) (by decide) (fun K hK => ?_)
  go_simp
  have htc := tclone_any T4 e4 css w10 (Kd.C_below HRAW.out (below_then HBW.out HBW.out.size HQ.out.pw.bel)) (by have := HOL.out; have := HCL.out; omega)
  rw [HCL.out] at htc
  refine htc.mono ?_
  clear htc
  rintro e w11 ⟨v4, rfl, hr4, hb4⟩
  have HQ := Aside0.mk (HQ.out.k hr4 hb4)
  obtain ⟨S4, q4, rfl⟩ := Kd.R_slice hr4
  clear hr4 hb4
  refine hK.out _ _ ⟨(blk_cell HQ.out.pw.ba 3).trans rfl, (blk_cell HQ.out.pw.ba 4).trans rfl⟩ (fun hHeld => ?_)
  clear hK K
  refine last_ (i := 7) (N := none) #[true, true, true, true, true, true, true, true, false, false] rfl rfl (by kernel_rfl) (by decide) (fun K hK => ?_)
  have hp3 : w11.cell? ⟨a, 3, none⟩ = some (.slice T3 t.f3.length e3) := (blk_cell HQ.out.pw.ba 3).trans rfl
  have hf3 : w11.frozen? ⟨a, 3, none⟩ = false := blk_frozen HQ.out.pw.ba 3
  go_simp
  clear hp3 hf3
  refine hK.out _ _ ?_
  clear hK K
  have HB4 := Aside0.mk (blk_set HQ.out.pw.ba 3 (.slice S3 t.f3.length q3))
  refine pure_ (i := 8) (N := some 55) (v := ?_) (a' := ?_) #[true, true, true, true, true, true, true, true, true, false] rfl rfl (by kernel_rfl) (fun _ _ _ h => h) (Or.inl ⟨by rfl, ?_⟩) ?_ ?_
  rotate_left
  · intro w'
    go_simp
    with_reducible rfl
  rotate_left
  · simp only [Act.put, List.setIfInBounds_toArray, List.set_cons_zero, List.set_cons_succ]
    rfl
  refine last_ (i := 9) (N := none) #[true, true, true, true, true, true, true, true, true, true] rfl rfl (by kernel_rfl) (by decide) (fun K hK => ?_)
  have hp4 : (w11.setCell ⟨a, 3, none⟩ (.slice S3 t.f3.length q3)).cell? ⟨a, 4, none⟩ = some (.slice T4 t.f4.length e4) := (blk_cell HB4.out 4).trans rfl
  have hf4 : (w11.setCell ⟨a, 3, none⟩ (.slice S3 t.f3.length q3)).frozen? ⟨a, 4, none⟩ = false := blk_frozen HB4.out 4
  go_simp
  clear hp4 hf4
  refine hK.out _ _ ?_
  clear hK K
  refine done_ (by kernel_rfl) ?_
  have HQ := Aside0.mk (HQ.out.set34 (.slice S3 t.f3.length q3) (.slice S4 css.length q4))
  clear HB4 hHeld
  generalize ((w11.setCell ⟨a, 3, none⟩ (.slice S3 t.f3.length q3)).setCell ⟨a, 4, none⟩ (.slice S4 css.length q4)) = w12 at *
  go_upto_region 15 with fail
  have hile : i ≤ t.f3.length := by have h1 := HI.out.1; have := posS_le t.f3 n; omega
  have HI7 : Aside0 (∀ (W : World) (a1 : Nat), n7 ≤ W.heap.size → Kd.string.R 9 W n7 (fun _ => True) (.slice S3 t.f3.length q3) t.f3 → W.heap[a1]? = some (.cells #[.string n] 9 (0, 0)) → some a1 ≠ (Value.slice S3 t.f3.length q3).ownBlock → Calls Tryd.prog 51 #[(.slice S3 t.f3.length q3), .int .i64 i, .slice (some ⟨a1, 0, none⟩) 1 1] W (sinsertP n7 W (.slice S3 t.f3.length q3) (t.f3.take i ++ n :: t.f3.drop i))) := ⟨fun W a1 h1 h2 h3 h4 => sinsert_any n7 W _ t.f3 n i a1 h1 h2 h3 h4 hile (by omega)⟩
  have HI13 : Aside0 (∀ (W : World) (a2 : Nat), n7 ≤ W.heap.size → kraw.R 26 W n7 (fun _ => True) (.slice S4 css.length q4) css → W.heap[a2]? = some (.cells (cs5 r G2 g2 G3 g3 G4 g4).toArray 26 (0, 0)) → (∀ u ∈ cs5 r G2 g2 G3 g3 G4 g4, u.oneCell' = true) → some a2 ≠ (Value.slice S4 css.length q4).ownBlock → Calls Tryd.prog 52 #[(.slice S4 css.length q4), .int .i64 i, .slice (some ⟨a2, 0, none⟩) 1 1] W (tinsertP n7 W (.slice S4 css.length q4) (css.take i ++ cs5 r G2 g2 G3 g3 G4 g4 :: css.drop i))) := ⟨fun W a2 h1 h2 h3 h5 h4 => tinsert_any n7 W _ css _ i a2 h1 h2 h3 rfl h5 h4 (by have := HOL.out; have := HCL.out; omega) (by have := HOL.out; have := HCL.out; omega)⟩
  obtain ⟨ns', hns⟩ : ∃ q, t.f3.take i ++ n :: t.f3.drop i = q := ⟨_, rfl⟩
  obtain ⟨cst, hcst⟩ : ∃ q, css.take i ++ cs5 r G2 g2 G3 g3 G4 g4 :: css.drop i = q := ⟨_, rfl⟩
  rw [hns] at HI7
  rw [hcst] at HI13
  have HNS := Aside0.mk hns
  have HCST := Aside0.mk hcst
  clear hns hcst
  have HQ := Aside0.mk (HQ.out.below (below_drew (Below.refl _ w12)))
  refine start_ (n := 18) (S := fun w' => w'.cell? ⟨a, 3, none⟩ = some (.slice S3 t.f3.length q3) ∧ w'.cell? ⟨a, 4, none⟩ = some (.slice S4 css.length q4) ∧ w'.cell? ad = some (.string n) ∧ w'.cell? ⟨d, 0, none⟩ = some (.int .i64 r.f0) ∧ w'.cell? ⟨d, 1, none⟩ = some (.bool r.f1) ∧ w'.cell? ⟨d, 2, none⟩ = some (.slice G2 r.f2.length g2) ∧ w'.cell? ⟨d, 3, none⟩ = some (.slice G3 r.f3.length g3) ∧ w'.cell? ⟨d, 4, none⟩ = some (.slice G4 r.f4.length g4)) (ds := [15, 17]) #[false, false, false, false, false, false, false, false, false, false, false, false, false, false, false, false, false, false] (by kernel_rfl) rfl rfl ⟨(blk_cell HQ.out.pw.ba 3).trans rfl, (blk_cell HQ.out.pw.ba 4).trans rfl, HAT.out _ HQ.out.pw.bel, (blk_cell HQ.out.bd 0).trans rfl, (blk_cell HQ.out.bd 1).trans rfl, (blk_cell HQ.out.bd 2).trans rfl, (blk_cell HQ.out.bd 3).trans rfl, (blk_cell HQ.out.bd 4).trans rfl⟩ (fun hHeld => ?_)
  generalize w12.drew = wc at *
  refine pure_ (i := 0) (N := some 62) (v := ?_) (a' := ?_) #[true, false, false, false, false, false, false, false, false, false, false, false, false, false, false, false, false, false] rfl rfl (by kernel_rfl) (fun _ _ _ h => h) (Or.inl ⟨by rfl, ?_⟩) ?_ ?_
  rotate_left
  · intro w'
    go_simp
    with_reducible rfl
  rotate_left
  · simp only [Act.put, List.setIfInBounds_toArray, List.set_cons_zero, List.set_cons_succ]
    rfl
  refine pure_ (i := 2) (N := some 64) (v := ?_) (a' := ?_) #[true, false, true, false, false, false, false, false, false, false, false, false, false, false, false, false, false, false] rfl rfl (by kernel_rfl) (fun _ _ _ h => h) (Or.inl ⟨by rfl, ?_⟩) ?_ ?_
  rotate_left
  · intro w'
    go_simp
    with_reducible rfl
  rotate_left
  · simp only [Act.put, List.setIfInBounds_toArray, List.set_cons_zero, List.set_cons_succ]
    rfl
  refine pure_ (i := 3) (N := some 65) (v := ?_) (a' := ?_) #[true, false, true, true, false, false, false, false, false, false, false, false, false, false, false, false, false, false] rfl rfl (by kernel_rfl) (fun _ _ _ h => h) (Or.inl ⟨by rfl, ?_⟩) ?_ ?_
  rotate_left
  · intro w'
    go_simp
    with_reducible rfl
  rotate_left
  · simp only [Act.put, List.setIfInBounds_toArray, List.set_cons_zero, List.set_cons_succ]
    rfl
  refine pure_ (i := 8) (N := some 70) (v := ?_) (a' := ?_) #[true, false, true, true, false, false, false, false, true, false, false, false, false, false, false, false, false, false] rfl rfl (by kernel_rfl) (fun _ _ _ h => h) (Or.inl ⟨by rfl, ?_⟩) ?_ ?_
  rotate_left
  · intro w'
    go_simp
    with_reducible rfl
  rotate_left
  · simp only [Act.put, List.setIfInBounds_toArray, List.set_cons_zero, List.set_cons_succ]
    rfl
  refine pure_ (i := 10) (N := some 72) (v := ?_) (a' := ?_) #[true, false, true, true, false, false, false, false, true, false, true, false, false, false, false, false, false, false] rfl rfl (by kernel_rfl) (fun _ _ _ h => h) (Or.inl ⟨by rfl, ?_⟩) ?_ ?_
  rotate_left
  · intro w'
    go_simp
    with_reducible rfl
  rotate_left
  · simp only [Act.put, List.setIfInBounds_toArray, List.set_cons_zero, List.set_cons_succ]
    rfl
  refine take_ (i := 1) (N := some 63) (v := ?_) (a' := ?_) #[true, true, true, true, false, false, false, false, true, false, true, false, false, false, false, false, false, false] rfl rfl (by kernel_rfl) (fun _ _ _ h => h) (Or.inl ⟨by rfl, ?_⟩) hHeld ?_ ?_
  rotate_left
  · rintro w' ⟨s0, s1, s2, s3, s4, s5, s6, s7⟩
    go_simp
    with_reducible rfl
  rotate_left
  · simp only [Act.put, List.setIfInBounds_toArray, List.set_cons_zero, List.set_cons_succ]
    rfl
  refine take_ (i := 9) (N := some 71) (v := ?_) (a' := ?_) #[true, true, true, true, false, false, false, false, true, true, true, false, false, false, false, false, false, false] rfl rfl (by kernel_rfl) (fun _ _ _ h => h) (Or.inl ⟨by rfl, ?_⟩) hHeld ?_ ?_
  rotate_left
  · rintro w' ⟨s0, s1, s2, s3, s4, s5, s6, s7⟩
    go_simp
    with_reducible rfl
  rotate_left
  · simp only [Act.put, List.setIfInBounds_toArray, List.set_cons_zero, List.set_cons_succ]
    rfl
  refine pure_ (i := 4) (N := some 66) (v := ?_) (a' := ?_) #[true, true, true, true, true, false, false, false, true, true, true, false, false, false, false, false, false, false] rfl rfl (by kernel_rfl) (fun _ _ _ h => h) (Or.inl ⟨by rfl, ?_⟩) ?_ ?_
  rotate_left
  · intro w'
    go_simp
    with_reducible rfl
  rotate_left
  · simp only [Act.put, List.setIfInBounds_toArray, List.set_cons_zero, List.set_cons_succ]
    rfl
  refine take_ (i := 5) (N := some 67) (v := ?_) (a' := ?_) #[true, true, true, true, true, true, false, false, true, true, true, false, false, false, false, false, false, false] rfl rfl (by kernel_rfl) (fun _ _ _ h => h) (Or.inl ⟨by rfl, ?_⟩) hHeld ?_ ?_
  rotate_left
  · rintro w' ⟨s0, s1, s2, s3, s4, s5, s6, s7⟩
    go_simp
    with_reducible rfl
  rotate_left
  · simp only [Act.put, List.setIfInBounds_toArray, List.set_cons_zero, List.set_cons_succ]
    rfl
  refine take_ (i := 11) (N := some 73) (v := ?_) (a' := ?_) #[true, true, true, true, true, true, false, false, true, true, true, true, false, false, false, false, false, false] rfl rfl (by kernel_rfl) (fun _ _ _ h => h) (Or.inl ⟨by rfl, ?_⟩) hHeld ?_ ?_
  rotate_left
  · rintro w' ⟨s0, s1, s2, s3, s4, s5, s6, s7⟩
    go_simp
    with_reducible rfl
  rotate_left
  · simp only [Act.put, List.setIfInBounds_toArray, List.set_cons_zero, List.set_cons_succ]
    rfl
  refine join_ (σ := (Value × Value) × (Value × Value)) 3 #[true, true, true, true, true, true, true, true, true, true, true, true, true, true, true, false, false, false] (fun s_ => [(68, s_.1.1), (69, s_.1.2), (74, s_.2.1), (75, s_.2.2), (76, .pointer (some ⟨a, 3, none⟩))]) (fun s_ w' => ∃ q5 q6, s_ = (q5, q6) ∧ QW w w' w0.heap.size nz n7 a b c d #[.int .i64 t.f0, .bool t.f1, .slice T2 t.f2.length e2, (.slice S3 t.f3.length q3), (.slice S4 css.length q4)] #[(.int .i64 x.f0), (.bool x.f1), (.slice A2 x.f2.length c2), (.slice A3 x.f3.length c3), (.slice A4 x.f4.length c4)] #[.int .i64 0, .bool false, .slice none 0 0, .slice none 0 0, .slice none 0 0] r (cs5 r G2 g2 G3 g3 G4 g4) q5.2 q6.2 ns' cst) ?_ ?_
  rotate_left
  · intro hCont
    refine two_ (i := 6) (j := 12) (Ni := some 68) (Nj := some 74) #[true, true, true, true, true, true, true, false, true, true, true, true, false, false, false, false, false, false] #[true, true, true, true, true, true, false, false, true, true, true, true, true, false, false, false, false, false] rfl rfl rfl rfl (by kernel_rfl) (by decide) (by decide) (fun K hK => ?_) (fun K hK => ?_)
    · skip
      go_simp
      have hal := below_alloc (Below.refl _ wc) (.cells #[.string n] 9)
      obtain ⟨a1, ha1⟩ : ∃ q, wc.heap.size = q := ⟨_, rfl⟩
      have HA1 := Aside0.mk (heap_alloc_new wc (.cells #[.string n] 9))
      have HN1 : Aside0 (some a1 ≠ (Value.slice S3 t.f3.length q3).ownBlock) := ⟨fun he => by have := Kd.R_lt HQ.out.rn a1 he.symm; omega⟩
      have HQ := Aside0.mk (HQ.out.below hal)
      rw [ha1] at HA1 ⊢
      clear ha1 hal
      generalize wc.alloc (.cells #[.string n] 9) = wc at *
      refine hK.out _ _ ⟨(blk_cell HQ.out.pw.ba 3).trans rfl, (blk_cell HQ.out.pw.ba 4).trans rfl, HAT.out _ HQ.out.pw.bel, (blk_cell HQ.out.bd 0).trans rfl, (blk_cell HQ.out.bd 1).trans rfl, (blk_cell HQ.out.bd 2).trans rfl, (blk_cell HQ.out.bd 3).trans rfl, (blk_cell HQ.out.bd 4).trans rfl⟩ (fun hHeld => ?_)
      clear hK K
      refine two_ (i := 7) (j := 12) (Ni := some 69) (Nj := some 74) #[true, true, true, true, true, true, true, true, true, true, true, true, false, false, false, false, false, false] #[true, true, true, true, true, true, true, false, true, true, true, true, true, false, false, false, false, false] rfl rfl rfl rfl (by kernel_rfl) (by decide) (by decide) (fun K hK => ?_) (fun K hK => ?_)
      · skip
        go_simp
        refine (HI7.out wc a1 HQ.out.sz HQ.out.rn HA1.out HN1.out).mono ?_
        rintro e w5 ⟨v5, rfl, hr5, hb5, hg5, hat5⟩
        have HQ := Aside0.mk (HQ.out.ins3 hr5 hb5 hg5)
        obtain ⟨A5, c5, rfl⟩ := Kd.R_slice hr5
        clear hr5 hb5 hg5 hat5
        generalize w5 = wc at *
        refine hK.out _ _ ⟨(blk_cell HQ.out.pw.ba 3).trans rfl, (blk_cell HQ.out.pw.ba 4).trans rfl, HAT.out _ HQ.out.pw.bel, (blk_cell HQ.out.bd 0).trans rfl, (blk_cell HQ.out.bd 1).trans rfl, (blk_cell HQ.out.bd 2).trans rfl, (blk_cell HQ.out.bd 3).trans rfl, (blk_cell HQ.out.bd 4).trans rfl⟩ (fun hHeld => ?_)
        clear hK K
        refine pure_ (i := 14) (N := some 76) (v := ?_) (a' := ?_) #[true, true, true, true, true, true, true, true, true, true, true, true, false, false, true, false, false, false] rfl rfl (by kernel_rfl) (fun _ _ _ h => h) (Or.inl ⟨by rfl, ?_⟩) ?_ ?_
        rotate_left
        · intro w'
          go_simp
          with_reducible rfl
        rotate_left
        · simp only [Act.put, List.setIfInBounds_toArray, List.set_cons_zero, List.set_cons_succ]
          rfl
        refine one_ (i := 12) (N := some 74) #[true, true, true, true, true, true, true, true, true, true, true, true, true, false, true, false, false, false] rfl rfl (by kernel_rfl) (by decide) (fun K hK => ?_)
        go_simp
        have hal := below_alloc (Below.refl _ wc) (.cells #[(.int .i64 r.f0), (.bool r.f1), (.slice G2 r.f2.length g2), (.slice G3 r.f3.length g3), (.slice G4 r.f4.length g4)] 26)
        obtain ⟨a2, ha2⟩ : ∃ q, wc.heap.size = q := ⟨_, rfl⟩
        have HA2 := Aside0.mk (heap_alloc_new wc (.cells #[(.int .i64 r.f0), (.bool r.f1), (.slice G2 r.f2.length g2), (.slice G3 r.f3.length g3), (.slice G4 r.f4.length g4)] 26))
        have HN2 : Aside0 (some a2 ≠ (Value.slice S4 css.length q4).ownBlock) := ⟨fun he => by have := Kd.R_lt HQ.out.rk a2 he.symm; omega⟩
        have HQ := Aside0.mk (HQ.out.below hal)
        rw [ha2] at HA2 ⊢
        clear ha2 hal
        generalize wc.alloc (.cells #[(.int .i64 r.f0), (.bool r.f1), (.slice G2 r.f2.length g2), (.slice G3 r.f3.length g3), (.slice G4 r.f4.length g4)] 26) = wc at *
        refine hK.out _ _ ⟨(blk_cell HQ.out.pw.ba 3).trans rfl, (blk_cell HQ.out.pw.ba 4).trans rfl, HAT.out _ HQ.out.pw.bel, (blk_cell HQ.out.bd 0).trans rfl, (blk_cell HQ.out.bd 1).trans rfl, (blk_cell HQ.out.bd 2).trans rfl, (blk_cell HQ.out.bd 3).trans rfl, (blk_cell HQ.out.bd 4).trans rfl⟩ (fun hHeld => ?_)
        clear hK K
        refine one_ (i := 13) (N := some 75) #[true, true, true, true, true, true, true, true, true, true, true, true, true, true, true, false, false, false] rfl rfl (by kernel_rfl) (by decide) (fun K hK => ?_)
        go_simp
        refine (HI13.out wc a2 HQ.out.sz HQ.out.rk HA2.out (k26.K_one HQ.out.kg.here) HN2.out).mono ?_
        rintro e w6 ⟨v6, rfl, hr6, hb6, hg6, hat6⟩
        have HQ := Aside0.mk (HQ.out.ins4 hr6 hb6 hg6)
        obtain ⟨A6, c6, rfl⟩ := Kd.R_slice hr6
        clear hr6 hb6 hg6 hat6
        generalize w6 = wc at *
        refine hK.out _ _ ⟨(blk_cell HQ.out.pw.ba 3).trans rfl, (blk_cell HQ.out.pw.ba 4).trans rfl, HAT.out _ HQ.out.pw.bel, (blk_cell HQ.out.bd 0).trans rfl, (blk_cell HQ.out.bd 1).trans rfl, (blk_cell HQ.out.bd 2).trans rfl, (blk_cell HQ.out.bd 3).trans rfl, (blk_cell HQ.out.bd 4).trans rfl⟩ (fun hHeld => ?_)
        clear hK K
        exact norm_ (by simp only [putAll, Act.put, List.setIfInBounds_toArray, List.set_cons_zero, List.set_cons_succ]; first | done | rfl) (hCont ((.slice (some ⟨a1, 0, none⟩) 1 1, .slice A5 ns'.length c5), (.slice (some ⟨a2, 0, none⟩) 1 1, .slice A6 cst.length c6)) _ ⟨_, _, rfl, HQ.out⟩)
      · skip
        go_simp
        have hal := below_alloc (Below.refl _ wc) (.cells #[(.int .i64 r.f0), (.bool r.f1), (.slice G2 r.f2.length g2), (.slice G3 r.f3.length g3), (.slice G4 r.f4.length g4)] 26)
        obtain ⟨a2, ha2⟩ : ∃ q, wc.heap.size = q := ⟨_, rfl⟩
        have HA2 := Aside0.mk (heap_alloc_new wc (.cells #[(.int .i64 r.f0), (.bool r.f1), (.slice G2 r.f2.length g2), (.slice G3 r.f3.length g3), (.slice G4 r.f4.length g4)] 26))
        have HN2 : Aside0 (some a2 ≠ (Value.slice S4 css.length q4).ownBlock) := ⟨fun he => by have := Kd.R_lt HQ.out.rk a2 he.symm; omega⟩
        have HN23 : Aside0 (some a2 ≠ (Value.slice S3 t.f3.length q3).ownBlock) := ⟨fun he => by have := Kd.R_lt HQ.out.rn a2 he.symm; omega⟩
        have HA1 := Aside0.mk (blk_alloc HA1.out (.cells #[(.int .i64 r.f0), (.bool r.f1), (.slice G2 r.f2.length g2), (.slice G3 r.f3.length g3), (.slice G4 r.f4.length g4)] 26))
        have HQ := Aside0.mk (HQ.out.below hal)
        rw [ha2] at HA2 ⊢
        clear ha2 hal
        generalize wc.alloc (.cells #[(.int .i64 r.f0), (.bool r.f1), (.slice G2 r.f2.length g2), (.slice G3 r.f3.length g3), (.slice G4 r.f4.length g4)] 26) = wc at *
        refine hK.out _ _ ⟨(blk_cell HQ.out.pw.ba 3).trans rfl, (blk_cell HQ.out.pw.ba 4).trans rfl, HAT.out _ HQ.out.pw.bel, (blk_cell HQ.out.bd 0).trans rfl, (blk_cell HQ.out.bd 1).trans rfl, (blk_cell HQ.out.bd 2).trans rfl, (blk_cell HQ.out.bd 3).trans rfl, (blk_cell HQ.out.bd 4).trans rfl⟩ (fun hHeld => ?_)
        clear hK K
        refine one_ (i := 7) (N := some 69) #[true, true, true, true, true, true, true, true, true, true, true, true, true, false, false, false, false, false] rfl rfl (by kernel_rfl) (by decide) (fun K hK => ?_)
        go_simp
        refine (HI7.out wc a1 HQ.out.sz HQ.out.rn HA1.out HN1.out).mono ?_
        rintro e w5 ⟨v5, rfl, hr5, hb5, hg5, hat5⟩
        have HQ := Aside0.mk (HQ.out.ins3 hr5 hb5 hg5)
        have HA2 := Aside0.mk ((hg5.block _ (blk_lt HA2.out) HN23.out).trans HA2.out)
        obtain ⟨A5, c5, rfl⟩ := Kd.R_slice hr5
        clear hr5 hb5 hg5 hat5
        generalize w5 = wc at *
        refine hK.out _ _ ⟨(blk_cell HQ.out.pw.ba 3).trans rfl, (blk_cell HQ.out.pw.ba 4).trans rfl, HAT.out _ HQ.out.pw.bel, (blk_cell HQ.out.bd 0).trans rfl, (blk_cell HQ.out.bd 1).trans rfl, (blk_cell HQ.out.bd 2).trans rfl, (blk_cell HQ.out.bd 3).trans rfl, (blk_cell HQ.out.bd 4).trans rfl⟩ (fun hHeld => ?_)
        clear hK K
        refine pure_ (i := 14) (N := some 76) (v := ?_) (a' := ?_) #[true, true, true, true, true, true, true, true, true, true, true, true, true, false, true, false, false, false] rfl rfl (by kernel_rfl) (fun _ _ _ h => h) (Or.inl ⟨by rfl, ?_⟩) ?_ ?_
        rotate_left
        · intro w'
          go_simp
          with_reducible rfl
        rotate_left
        · simp only [Act.put, List.setIfInBounds_toArray, List.set_cons_zero, List.set_cons_succ]
          rfl
        refine one_ (i := 13) (N := some 75) #[true, true, true, true, true, true, true, true, true, true, true, true, true, true, true, false, false, false] rfl rfl (by kernel_rfl) (by decide) (fun K hK => ?_)
        go_simp
        refine (HI13.out wc a2 HQ.out.sz HQ.out.rk HA2.out (k26.K_one HQ.out.kg.here) HN2.out).mono ?_
        rintro e w6 ⟨v6, rfl, hr6, hb6, hg6, hat6⟩
        have HQ := Aside0.mk (HQ.out.ins4 hr6 hb6 hg6)
        obtain ⟨A6, c6, rfl⟩ := Kd.R_slice hr6
        clear hr6 hb6 hg6 hat6
        generalize w6 = wc at *
        refine hK.out _ _ ⟨(blk_cell HQ.out.pw.ba 3).trans rfl, (blk_cell HQ.out.pw.ba 4).trans rfl, HAT.out _ HQ.out.pw.bel, (blk_cell HQ.out.bd 0).trans rfl, (blk_cell HQ.out.bd 1).trans rfl, (blk_cell HQ.out.bd 2).trans rfl, (blk_cell HQ.out.bd 3).trans rfl, (blk_cell HQ.out.bd 4).trans rfl⟩ (fun hHeld => ?_)
        clear hK K
        exact norm_ (by simp only [putAll, Act.put, List.setIfInBounds_toArray, List.set_cons_zero, List.set_cons_succ]; first | done | rfl) (hCont ((.slice (some ⟨a1, 0, none⟩) 1 1, .slice A5 ns'.length c5), (.slice (some ⟨a2, 0, none⟩) 1 1, .slice A6 cst.length c6)) _ ⟨_, _, rfl, HQ.out⟩)
    · skip
      go_simp
      have hal := below_alloc (Below.refl _ wc) (.cells #[(.int .i64 r.f0), (.bool r.f1), (.slice G2 r.f2.length g2), (.slice G3 r.f3.length g3), (.slice G4 r.f4.length g4)] 26)
      obtain ⟨a2, ha2⟩ : ∃ q, wc.heap.size = q := ⟨_, rfl⟩
      have HA2 := Aside0.mk (heap_alloc_new wc (.cells #[(.int .i64 r.f0), (.bool r.f1), (.slice G2 r.f2.length g2), (.slice G3 r.f3.length g3), (.slice G4 r.f4.length g4)] 26))
      have HN2 : Aside0 (some a2 ≠ (Value.slice S4 css.length q4).ownBlock) := ⟨fun he => by have := Kd.R_lt HQ.out.rk a2 he.symm; omega⟩
      have HN23 : Aside0 (some a2 ≠ (Value.slice S3 t.f3.length q3).ownBlock) := ⟨fun he => by have := Kd.R_lt HQ.out.rn a2 he.symm; omega⟩
      have HQ := Aside0.mk (HQ.out.below hal)
      rw [ha2] at HA2 ⊢
      clear ha2 hal
      generalize wc.alloc (.cells #[(.int .i64 r.f0), (.bool r.f1), (.slice G2 r.f2.length g2), (.slice G3 r.f3.length g3), (.slice G4 r.f4.length g4)] 26) = wc at *
      refine hK.out _ _ ⟨(blk_cell HQ.out.pw.ba 3).trans rfl, (blk_cell HQ.out.pw.ba 4).trans rfl, HAT.out _ HQ.out.pw.bel, (blk_cell HQ.out.bd 0).trans rfl, (blk_cell HQ.out.bd 1).trans rfl, (blk_cell HQ.out.bd 2).trans rfl, (blk_cell HQ.out.bd 3).trans rfl, (blk_cell HQ.out.bd 4).trans rfl⟩ (fun hHeld => ?_)
      clear hK K
      refine one_ (i := 6) (N := some 68) #[true, true, true, true, true, true, true, false, true, true, true, true, true, false, false, false, false, false] rfl rfl (by kernel_rfl) (by decide) (fun K hK => ?_)
      go_simp
      have hal := below_alloc (Below.refl _ wc) (.cells #[.string n] 9)
      obtain ⟨a1, ha1⟩ : ∃ q, wc.heap.size = q := ⟨_, rfl⟩
      have HA1 := Aside0.mk (heap_alloc_new wc (.cells #[.string n] 9))
      have HN1 : Aside0 (some a1 ≠ (Value.slice S3 t.f3.length q3).ownBlock) := ⟨fun he => by have := Kd.R_lt HQ.out.rn a1 he.symm; omega⟩
      have HA2 := Aside0.mk (blk_alloc HA2.out (.cells #[.string n] 9))
      have HQ := Aside0.mk (HQ.out.below hal)
      rw [ha1] at HA1 ⊢
      clear ha1 hal
      generalize wc.alloc (.cells #[.string n] 9) = wc at *
      refine hK.out _ _ ⟨(blk_cell HQ.out.pw.ba 3).trans rfl, (blk_cell HQ.out.pw.ba 4).trans rfl, HAT.out _ HQ.out.pw.bel, (blk_cell HQ.out.bd 0).trans rfl, (blk_cell HQ.out.bd 1).trans rfl, (blk_cell HQ.out.bd 2).trans rfl, (blk_cell HQ.out.bd 3).trans rfl, (blk_cell HQ.out.bd 4).trans rfl⟩ (fun hHeld => ?_)
      clear hK K
      refine one_ (i := 7) (N := some 69) #[true, true, true, true, true, true, true, true, true, true, true, true, true, false, false, false, false, false] rfl rfl (by kernel_rfl) (by decide) (fun K hK => ?_)
      go_simp
      refine (HI7.out wc a1 HQ.out.sz HQ.out.rn HA1.out HN1.out).mono ?_
      rintro e w5 ⟨v5, rfl, hr5, hb5, hg5, hat5⟩
      have HQ := Aside0.mk (HQ.out.ins3 hr5 hb5 hg5)
      have HA2 := Aside0.mk ((hg5.block _ (blk_lt HA2.out) HN23.out).trans HA2.out)
      obtain ⟨A5, c5, rfl⟩ := Kd.R_slice hr5
      clear hr5 hb5 hg5 hat5
      generalize w5 = wc at *
      refine hK.out _ _ ⟨(blk_cell HQ.out.pw.ba 3).trans rfl, (blk_cell HQ.out.pw.ba 4).trans rfl, HAT.out _ HQ.out.pw.bel, (blk_cell HQ.out.bd 0).trans rfl, (blk_cell HQ.out.bd 1).trans rfl, (blk_cell HQ.out.bd 2).trans rfl, (blk_cell HQ.out.bd 3).trans rfl, (blk_cell HQ.out.bd 4).trans rfl⟩ (fun hHeld => ?_)
      clear hK K
      refine pure_ (i := 14) (N := some 76) (v := ?_) (a' := ?_) #[true, true, true, true, true, true, true, true, true, true, true, true, true, false, true, false, false, false] rfl rfl (by kernel_rfl) (fun _ _ _ h => h) (Or.inl ⟨by rfl, ?_⟩) ?_ ?_
      rotate_left
      · intro w'
        go_simp
        with_reducible rfl
      rotate_left
      · simp only [Act.put, List.setIfInBounds_toArray, List.set_cons_zero, List.set_cons_succ]
        rfl
      refine one_ (i := 13) (N := some 75) #[true, true, true, true, true, true, true, true, true, true, true, true, true, true, true, false, false, false] rfl rfl (by kernel_rfl) (by decide) (fun K hK => ?_)
      go_simp
      refine (HI13.out wc a2 HQ.out.sz HQ.out.rk HA2.out (k26.K_one HQ.out.kg.here) HN2.out).mono ?_
      rintro e w6 ⟨v6, rfl, hr6, hb6, hg6, hat6⟩
      have HQ := Aside0.mk (HQ.out.ins4 hr6 hb6 hg6)
      obtain ⟨A6, c6, rfl⟩ := Kd.R_slice hr6
      clear hr6 hb6 hg6 hat6
      generalize w6 = wc at *
      refine hK.out _ _ ⟨(blk_cell HQ.out.pw.ba 3).trans rfl, (blk_cell HQ.out.pw.ba 4).trans rfl, HAT.out _ HQ.out.pw.bel, (blk_cell HQ.out.bd 0).trans rfl, (blk_cell HQ.out.bd 1).trans rfl, (blk_cell HQ.out.bd 2).trans rfl, (blk_cell HQ.out.bd 3).trans rfl, (blk_cell HQ.out.bd 4).trans rfl⟩ (fun hHeld => ?_)
      clear hK K
      exact norm_ (by simp only [putAll, Act.put, List.setIfInBounds_toArray, List.set_cons_zero, List.set_cons_succ]; first | done | rfl) (hCont ((.slice (some ⟨a1, 0, none⟩) 1 1, .slice A5 ns'.length c5), (.slice (some ⟨a2, 0, none⟩) 1 1, .slice A6 cst.length c6)) _ ⟨_, _, rfl, HQ.out⟩)
  rintro ⟨⟨z1, z5⟩, ⟨z2, z6⟩⟩ wd ⟨q5, q6, he, hq⟩
  obtain ⟨rfl, rfl⟩ := Prod.mk.inj he
  simp only at hq
  clear HQ hHeld HI7 HI13
  have HQ := Aside0.mk hq
  obtain ⟨A5, c5, rfl⟩ := Kd.R_slice hq.rn
  obtain ⟨A6, c6, rfl⟩ := Kd.R_slice hq.rk
  clear hq he wc
  refine norm_ (a' := ?_) (by simp only [putAll, Act.put, List.setIfInBounds_toArray, List.set_cons_zero, List.set_cons_succ]; rfl) ?_
  refine last_ (i := 15) (N := none) #[true, true, true, true, true, true, true, true, true, true, true, true, true, true, true, true, false, false] rfl rfl (by kernel_rfl) (by decide) (fun K hK => ?_)
  have hp3 : wd.cell? ⟨a, 3, none⟩ = some (.slice S3 t.f3.length q3) := (blk_cell HQ.out.pw.ba 3).trans rfl
  have hf3 : wd.frozen? ⟨a, 3, none⟩ = false := blk_frozen HQ.out.pw.ba 3
  go_simp
  clear hp3 hf3
  refine hK.out _ _ ?_
  clear hK K
  have HB4 := Aside0.mk (blk_set HQ.out.pw.ba 3 (.slice A5 ns'.length c5))
  refine pure_ (i := 16) (N := some 77) (v := ?_) (a' := ?_) #[true, true, true, true, true, true, true, true, true, true, true, true, true, true, true, true, true, false] rfl rfl (by kernel_rfl) (fun _ _ _ h => h) (Or.inl ⟨by rfl, ?_⟩) ?_ ?_
  rotate_left
  · intro w'
    go_simp
    with_reducible rfl
  rotate_left
  · simp only [Act.put, List.setIfInBounds_toArray, List.set_cons_zero, List.set_cons_succ]
    rfl
  refine last_ (i := 17) (N := none) #[true, true, true, true, true, true, true, true, true, true, true, true, true, true, true, true, true, true] rfl rfl (by kernel_rfl) (by decide) (fun K hK => ?_)
  have hp4 : (wd.setCell ⟨a, 3, none⟩ (.slice A5 ns'.length c5)).cell? ⟨a, 4, none⟩ = some (.slice S4 css.length q4) := (blk_cell HB4.out 4).trans rfl
  have hf4 : (wd.setCell ⟨a, 3, none⟩ (.slice A5 ns'.length c5)).frozen? ⟨a, 4, none⟩ = false := blk_frozen HB4.out 4
  go_simp
  clear hp4 hf4
  refine hK.out _ _ ?_
  clear hK K
  refine done_ (by kernel_rfl) ?_
  have HQ := Aside0.mk (HQ.out.set34 (.slice A5 ns'.length c5) (.slice A6 cst.length c6))
  clear HB4
  generalize ((wd.setCell ⟨a, 3, none⟩ (.slice A5 ns'.length c5)).setCell ⟨a, 4, none⟩ (.slice A6 cst.length c6)) = w13 at *
  obtain ⟨x0, x1, x2, x3, x4⟩ := cells5 HQ.out.pw.ba
  obtain ⟨b0, b1, b2, b3, b4⟩ := cells5 HQ.out.pw.bc
  have f0 := blk_frozen HQ.out.pw.bc 0
  have f1 := blk_frozen HQ.out.pw.bc 1
  have f2 := blk_frozen HQ.out.pw.bc 2
  have f3 := blk_frozen HQ.out.pw.bc 3
  have f4 := blk_frozen HQ.out.pw.bc 4
  have HF := Aside0.mk (fun p0 p1 p2 p3 p4 => box_same HQ.out.pw.bc p0 p1 p2 p3 p4)
  go_wp2_with fail
  refine bodyPost_ret (results_c1 rfl _ _ c 26 _ (0, 0) _ rfl (HF.out _ _ _ _ _) Tryd.underlying26 rfl (by kernel_rfl)) rfl ?_
  exact QW.fin' (ks := t.f4.take (posS t.f3 n) ++ r :: t.f4.drop (posS t.f3 n)) HQ.out rfl rfl HBW.out HX.out.1.2.1 HX.out.1.1 (by rw [← HCST.out]; have := HOL.out; have := HCL.out; simp [HI.out.1]; omega) (fun j y cy hy hcy => kids_ins (P := fun x c => k26.K w0 x c ∨ (x = r ∧ c = cs5 r G2 g2 G3 g3 G4 g4)) i (by have := HOL.out; omega) HCL.out (fun j x c hx hc => .inl (HCS.out j x c hx hc)) (.inr ⟨rfl, rfl⟩) j y cy (by rw [← HI.out.1]; exact hy) (by rw [HCST.out]; exact hcy)) (by rw [← HNS.out, ← HI.out.1]; exact putS_ok_f H2.out HH.out HR.out)
end Go.Proofs.YtfnofjcdaghniaaDoor.Tree
/- tree: put, whole; what it leaves. Own work. -/
namespace Go.Proofs.YtfnofjcdaghniaaDoor.Tree
set_option linter.unusedVariables false
set_option linter.unusedSimpArgs false
open Go.RowKit Go.Proofs.YtfnofjcdaghniaaDoor.PL Go.Proofs.YtfnofjcdaghniaaDoor.Mt Go.Proofs.YtfnofjcdaghniaaDoorW.PrintWords Go.Proofs.YtfnofjcdaghniaaDoorW.PrintLast Go.Proofs.YtfnofjcdaghniaaDoorW.PrintMore
theorem rdB {l : List ByteArray} {i : Nat} (h : i < l.length) : rdOf ByteArray.empty l (i : Int) = l[i] := by
  unfold rdOf
  rw [List.getD_eq_getElem?_getD, Int.toNat_natCast, List.getElem?_eq_getElem h]
  rfl
theorem nameLe_not {a b : ByteArray} (h : nameLe a b = false) : ltB b a = true := by
  unfold nameLe at h
  rw [Bool.or_eq_false_iff] at h
  cases hb : ltB b a with
  | true => rfl
  | false =>
    have h1 : ltB a b = false := h.1
    have h2 := ltB_tri h1 hb
    have h3 := h.2
    rw [h2] at h3
    simp at h3
theorem names_srt {l : List ByteArray} (h : namesOK l) : Srt l := by
  have step : ∀ i (hi : i + 1 < l.length), ltB l[i] l[i + 1] = true := by
    intro i hi
    have h1 := h (i + 1) hi
    unfold nOK at h1
    rw [Bool.and_eq_true] at h1
    have h2 := h1.2
    rw [show (i + 1 == 0) = false from rfl, Bool.false_or, Nat.add_sub_cancel, rdB hi, rdB (by omega)] at h2
    exact nameLe_not (by simpa using h2)
  refine List.pairwise_iff_getElem.2 (fun i j hi hj hij => ?_)
  obtain ⟨d, rfl⟩ : ∃ d, j = i + 1 + d := ⟨j - i - 1, by omega⟩
  induction d with
  | zero => exact step i hj
  | succ d ih => exact ltB_trans (ih (by omega) (by omega)) (step (i + 1 + d) hj)
theorem names_ent {l : List ByteArray} (h : namesOK l) : ∀ s ∈ l, isE s = true := by
  intro s hs
  obtain ⟨i, hi, rfl⟩ := List.getElem_of_mem hs
  have h1 := h i hi
  unfold nOK at h1
  rw [Bool.and_eq_true, rdB hi] at h1
  exact h1.1
theorem kidsC_ge (f : S26 → Nat → Int × Nat) (hf : ∀ u m, (f u m).1 = 0 → m + 1 ≤ (f u m).2) : ∀ (l : List S26) (m : Nat), (kidsC f l m).1 = 0 → m + l.length ≤ (kidsC f l m).2 := by
  intro l
  induction l with
  | nil => intro m h; exact Nat.le_refl _
  | cons a l ih =>
    intro m h
    rw [kidsC] at h ⊢
    by_cases h0 : (f a m).1 ≠ 0
    · rw [if_pos h0] at h; exact absurd h h0
    · rw [if_neg h0] at h ⊢
      have h1 := ih _ h
      have h2 := hf a m (Classical.not_not.1 h0)
      rw [List.length_cons]
      omega
theorem kidsC_all (f : S26 → Nat → Int × Nat) (hf : ∀ u m, m ≤ 65536 → (f u m).1 = 0 → (f u m).2 ≤ 65536) : ∀ (l : List S26) (m : Nat), m ≤ 65536 → (kidsC f l m).1 = 0 → ∀ u ∈ l, ∃ m', m' ≤ 65536 ∧ (f u m').1 = 0 := by
  intro l
  induction l with
  | nil => intro m hm h u hu; simp at hu
  | cons a l ih =>
    intro m hm h u hu
    rw [kidsC] at h
    by_cases h0 : (f a m).1 ≠ 0
    · rw [if_pos h0] at h; exact absurd h h0
    · rw [if_neg h0] at h
      have h1 := Classical.not_not.1 h0
      rcases List.mem_cons.1 hu with rfl | hu
      · exact ⟨m, hm, h1⟩
      · exact ih _ (hf a m hm h1) h u hu
/-- what a node's check tells when it lets pass -/
theorem chk_node {N : Nat} {t : S26} {d n : Nat} (h : (chk (N + 1) t d n).1 = 0) : n + 1 ≤ 65536 ∧ d ≤ 64 ∧ formE t = 0 ∧ namesOK t.f3 ∧ chk (N + 1) t d n = kidsC (fun u m => chk N u (d + 1) m) t.f4 (n + 1) := by
  rw [chk] at h ⊢
  split at h
  · cases h
  · rename_i q1
    rw [if_neg q1]
    split at h
    · rename_i q2; exact absurd h q2
    · rename_i q2
      rw [if_neg q2]
      split at h
      · cases h
      · rename_i q3
        rw [if_neg q3]
        exact ⟨by omega, by omega, Classical.not_not.1 q2, Classical.not_not.1 q3, rfl⟩
theorem GT_pos {N : Nat} {t : S26} (h : GT N t) : ∃ M, N = M + 1 := by
  cases N with
  | zero => exact h.elim
  | succ M => exact ⟨M, rfl⟩
theorem chk_ge : ∀ (N : Nat) (t : S26) (d n : Nat), GT N t → (chk N t d n).1 = 0 → n + 1 ≤ (chk N t d n).2 := by
  intro N
  induction N with
  | zero => intro t d n hG _; exact hG.elim
  | succ N ih =>
    intro t d n hG h
    obtain ⟨-, -, -, -, h5⟩ := chk_node h
    have h9 := h
    rw [h5] at h9 ⊢
    clear h5 h
    obtain ⟨-, -, -, -, -, hk⟩ := hG
    have : ∀ (l : List S26) (m : Nat), (∀ a ∈ l, GT N a) → (kidsC (fun u m => chk N u (d + 1) m) l m).1 = 0 → m ≤ (kidsC (fun u m => chk N u (d + 1) m) l m).2 := by
      intro l
      induction l with
      | nil => intro m _ _; exact Nat.le_refl _
      | cons a l ih2 =>
        intro m hl hh
        rw [kidsC] at hh ⊢
        by_cases h0 : (chk N a (d + 1) m).1 ≠ 0
        · rw [if_pos h0] at hh; exact absurd hh h0
        · rw [if_neg h0] at hh ⊢
          have h1 := ih2 _ (fun b hb => hl b (List.mem_cons_of_mem _ hb)) hh
          have h2 := ih a (d + 1) m (hl a List.mem_cons_self) (Classical.not_not.1 h0)
          omega
    exact this _ _ hk h9
theorem kids_count {N d : Nat} : ∀ (l : List S26) (m : Nat), (∀ a ∈ l, GT N a) → (kidsC (fun u m => chk N u (d + 1) m) l m).1 = 0 → m + l.length ≤ (kidsC (fun u m => chk N u (d + 1) m) l m).2 := by
  intro l
  induction l with
  | nil => intro m _ _; exact Nat.le_refl _
  | cons a l ih2 =>
    intro m hl hh
    rw [kidsC] at hh ⊢
    by_cases h0 : (chk N a (d + 1) m).1 ≠ 0
    · rw [if_pos h0] at hh; exact absurd hh h0
    · rw [if_neg h0] at hh ⊢
      have h1 := ih2 _ (fun b hb => hl b (List.mem_cons_of_mem _ hb)) hh
      have h2 := chk_ge N a (d + 1) m (hl a List.mem_cons_self) (Classical.not_not.1 h0)
      rw [List.length_cons]
      omega
theorem formE_len {t : S26} (h : formE t = 0) : t.f3.length = t.f4.length := by
  unfold formE at h
  split at h
  · split at h
    · cases h
    · omega
  · split at h
    · split at h
      · cases h
      · rename_i q; omega
    · split at h
      · split at h
        · cases h
        · rename_i q; omega
      · cases h
theorem chk_okt : ∀ (N : Nat) (t : S26) (d n : Nat), GT N t → n ≤ 65536 → (chk N t d n).1 = 0 → Okt N t := by
  intro N
  induction N with
  | zero => intro t d n hG; exact hG.elim
  | succ N ih =>
    intro t d n hG hn h
    obtain ⟨h1, h2, h3, h4, h5⟩ := chk_node h
    have h6 := h
    rw [h5] at h6
    have hle := chk_le (N + 1) t d n hn h
    rw [h5] at hle
    have hc := kids_count t.f4 (n + 1) hG.2.2.2.2.2 h6
    have hl := formE_len h3
    refine ⟨hl, names_srt h4, by omega, fun u hu => ?_⟩
    obtain ⟨m', hm, h7⟩ := kidsC_all _ (fun u m hm h => chk_le N u (d + 1) m hm h) t.f4 (n + 1) h1 h6 u hu
    exact ih u (d + 1) m' (hG.2.2.2.2.2 u hu) hm h7
theorem GT_mono : ∀ {N M : Nat} {t : S26}, GT N t → N ≤ M → GT M t := by
  intro N
  induction N with
  | zero => intro M t h; exact h.elim
  | succ N ih =>
    intro M t h hm
    cases M with
    | zero => omega
    | succ M => exact ⟨h.1, h.2.1, h.2.2.1, h.2.2.2.1, h.2.2.2.2.1, fun a ha => ih (h.2.2.2.2.2 a ha) (by omega)⟩
theorem GT_z0 {N : Nat} : GT (N + 1) z0 := ⟨by decide, ⟨by decide, by decide, fun x hx => by simp [z0] at hx⟩, ⟨by decide, by decide, fun x hx => by simp [z0] at hx⟩, by decide, by decide, fun x hx => by simp [z0] at hx⟩
theorem GT_dir0 {N : Nat} : GT (N + 1) dir0 := ⟨by decide, ⟨by decide, by decide, fun x hx => by simp [dir0] at hx⟩, ⟨by decide, by decide, fun x hx => by simp [dir0] at hx⟩, by decide, by decide, fun x hx => by simp [dir0] at hx⟩
theorem put_GT : ∀ (l : List ByteArray) (N N2 M K : Nat) (t x : S26), GT N t → Okt N2 t → GT M x → (∀ n ∈ l, n.size ≤ 140737488351232) → N + M + l.length ≤ K → GT K (putS l t x).1 := by
  intro l
  induction l with
  | nil => intro N N2 M K t x hG hO hX hn hk; rw [putS]; exact GT_mono hX (by simp at hk; omega)
  | cons n l ih =>
    intro N N2 M K t x hG hO hX hn hk
    obtain ⟨N1, rfl⟩ := GT_pos hG
    obtain ⟨K1, rfl⟩ : ∃ K1, K = K1 + 1 := ⟨K - 1, by omega⟩
    rw [List.length_cons] at hk
    have hn0 := hn n List.mem_cons_self
    have hn1 : ∀ m ∈ l, m.size ≤ 140737488351232 := fun m hm => hn m (List.mem_cons_of_mem _ hm)
    obtain ⟨N3, rfl⟩ : ∃ q, N2 = q + 1 := by
      cases N2 with
      | zero => exact hO.elim
      | succ q => exact ⟨q, rfl⟩
    obtain ⟨o1, o2, o3, o4⟩ := hO
    obtain ⟨g1, g2, g3, g4⟩ := hG
    have hml : 900001 ≤ maxLen := by decide
    rw [putS]
    by_cases h2 : t.f0 ≠ 2
    · rw [if_pos h2]; exact GT_z0
    rw [if_neg h2]
    by_cases hh : hasS t.f3 n = true
    · rw [if_pos hh]
      have hil : posS t.f3 n < t.f4.length := by
        have h5 := hh
        unfold hasS at h5
        have := (List.getElem?_eq_some_iff.1 (of_decide_eq_true h5)).1
        omega
      have hmem : t.f4.getD (posS t.f3 n) dir0 ∈ t.f4 := by rw [List.getD_eq_getElem?_getD, List.getElem?_eq_getElem hil]; exact List.getElem_mem hil
      have hr := ih N1 N3 M K1 _ x (g4.2.2 _ hmem) (o4 _ hmem) hX hn1 (by omega)
      show GT (K1 + 1) (if _ ≠ (0 : Int) then _ else _ : S26 × Int).1
      split
      · exact GT_z0
      · refine ⟨g1, g2, g3, by rw [List.length_set]; exact g4.1, by rw [List.length_set]; exact g4.2.1, fun a ha => ?_⟩
        rcases List.mem_or_eq_of_mem_set ha with ha | rfl
        · exact GT_mono (g4.2.2 a ha) (by omega)
        · exact hr
    · rw [if_neg hh]
      have hr : GT K1 (putS l dir0 x).1 := by
        cases K1 with
        | zero => obtain ⟨q, rfl⟩ := GT_pos hX; omega
        | succ K2 => exact ih 1 1 M (K2 + 1) _ x GT_dir0 Okt_dir0 hX hn1 (by obtain ⟨q, rfl⟩ := GT_pos hX; omega)
      show GT (K1 + 1) (if _ ≠ (0 : Int) then _ else _ : S26 × Int).1
      split
      · exact GT_z0
      · have e3 : (t.f3.take (posS t.f3 n) ++ n :: t.f3.drop (posS t.f3 n)).length = t.f3.length + 1 := by have := posS_le t.f3 n; simp; omega
        have e4 : (t.f4.take (posS t.f3 n) ++ (putS l dir0 x).1 :: t.f4.drop (posS t.f3 n)).length = t.f4.length + 1 := by have := posS_le t.f3 n; simp; omega
        refine ⟨g1, g2, ⟨by rw [e3]; omega, by rw [e3]; omega, fun s hs => ?_⟩, by rw [e4]; omega, by rw [e4]; omega, fun a ha => ?_⟩
        · rcases List.mem_append.1 hs with hs | hs
          · exact g3.2.2 s (List.mem_of_mem_take hs)
          · rcases List.mem_cons.1 hs with rfl | hs
            · exact hn0
            · exact g3.2.2 s (List.mem_of_mem_drop hs)
        · rcases List.mem_append.1 ha with ha | ha
          · exact GT_mono (g4.2.2 a (List.mem_of_mem_take ha)) (by omega)
          · rcases List.mem_cons.1 ha with rfl | ha
            · exact hr
            · exact GT_mono (g4.2.2 a (List.mem_of_mem_drop ha)) (by omega)
theorem put_any (w0 : World) : ∀ (l : List ByteArray), l.length ≤ 1000000 → ∀ (N : Nat) (t x : S26) (T2 : Option Addr) (e2 : Nat) (T3 : Option Addr) (e3 : Nat) (T4 : Option Addr) (e4 : Nat) (A2 : Option Addr) (c2 : Nat) (A3 : Option Addr) (c3 : Nat) (A4 : Option Addr) (c4 : Nat) (LA : Option Addr) (lc : Nat) (w : World), Below w0.heap.size w0 w → TR w0 t T2 e2 T3 e3 T4 e4 → TR w0 x A2 c2 A3 c3 A4 c4 → Kd.string.C w0 LA l.length l → l.length ≤ lc → Okt (N + 1) t →
      Calls Tryd.prog 33 #[TV t T2 e2 T3 e3 T4 e4, .slice LA l.length lc, TV x A2 c2 A3 c3 A4 c4] w (PutP w0 w (putS l t x)) := by
  intro l
  induction l with
  | nil => intro hl N t x T2 e2 T3 e3 T4 e4 A2 c2 A3 c3 A4 c4 LA lc w hB ht hx hL hlc ho; exact put_nil t x T2 e2 T3 e3 T4 e4 A2 c2 A3 c3 A4 c4 LA lc w0 w hB hx
  | cons n l ih =>
    intro hl N t x T2 e2 T3 e3 T4 e4 A2 c2 A3 c3 A4 c4 LA lc w hB ht hx hL hlc ho
    rw [List.length_cons] at hl
    by_cases h2 : t.f0 = 2
    · cases hh : hasS t.f3 n with
      | true => exact put_dir_t n l N 0 t x T2 e2 T3 e3 T4 e4 A2 c2 A3 c3 A4 c4 LA lc w0 w h2 (by omega) hB ht hx hL hlc ho hh (ih (by omega))
      | false => exact put_dir_f n l N 0 t x T2 e2 T3 e3 T4 e4 A2 c2 A3 c3 A4 c4 LA lc w0 w h2 (by omega) hB ht hx hL hlc ho hh (ih (by omega))
    · exact put_file n l t x T2 e2 T3 e3 T4 e4 A2 c2 A3 c3 A4 c4 LA lc w0 w h2 (by omega)
end Go.Proofs.YtfnofjcdaghniaaDoor.Tree
/- tree.Put, walked. Own work; printed by gen_put.py. -/
namespace Go.Proofs.YtfnofjcdaghniaaDoor.Tree
set_option linter.unusedVariables false
set_option linter.unusedSimpArgs false
open Go.RowKit Go.Proofs.YtfnofjcdaghniaaDoor.PL Go.Proofs.YtfnofjcdaghniaaDoor.Mt Go.Proofs.YtfnofjcdaghniaaDoorW.PrintWords Go.Proofs.YtfnofjcdaghniaaDoorW.PrintLast Go.Proofs.YtfnofjcdaghniaaDoorW.PrintMore
theorem isE_size {s : ByteArray} (h : isE s = true) : s.size ≤ 140737488351232 := by
  unfold isE at h
  simp only [Bool.and_eq_true, decide_eq_true_eq] at h
  have := h.1.1.1.1.2
  omega
theorem partsS_len (s : ByteArray) (hs : s.size ≤ 1000000) : (partsS s).length ≤ 1000001 := by
  unfold partsS
  split
  · simp
  · have hle := Lib.countB_le slash (by decide) s.size s (Nat.le_refl _)
    rw [Lib.splitB_all slash (by decide) 0 _ s rfl]
    omega
theorem OT.setb {w : World} {base p : Nat} {t : S26} {v2 v3 v4 : Value} (h : OT w base t v2 v3 v4) (hp : p < base) (a b c d e : Value) : OT (((((w.setCell ⟨p, 0, none⟩ a).setCell ⟨p, 1, none⟩ b).setCell ⟨p, 2, none⟩ c).setCell ⟨p, 3, none⟩ d).setCell ⟨p, 4, none⟩ e) base t v2 v3 v4 :=
  ⟨Kd.R_mono (Kd.R_step (Kd.R_bound h.1) (fun k hk _ => box_far (by have := hk.2.1; omega) _ _ _ _ _)) (fun _ _ => trivial), Kd.R_mono (Kd.R_step (Kd.R_bound h.2.1) (fun k hk _ => box_far (by have := hk.2.1; omega) _ _ _ _ _)) (fun _ _ => trivial), Kd.R_mono (Kd.R_step (Kd.R_bound h.2.2) (fun k hk _ => box_far (by have := hk.2.1; omega) _ _ _ _ _)) (fun _ hk => hk.1)⟩
theorem OT.lower {w : World} {base b : Nat} {t : S26} {v2 v3 v4 : Value} (h : OT w base t v2 v3 v4) (hb : b ≤ base) : OT w b t v2 v3 v4 := ⟨Kd.R_lower h.1 hb, Kd.R_lower h.2.1 hb, Kd.R_lower h.2.2 hb⟩
theorem OT.TR {w : World} {base : Nat} {t : S26} {B2 : Option Addr} {d2 : Nat} {B3 : Option Addr} {d3 : Nat} {B4 : Option Addr} {d4 : Nat} (h : OT w base t (.slice B2 t.f2.length d2) (.slice B3 t.f3.length d3) (.slice B4 t.f4.length d4)) : TR w t B2 d2 B3 d3 B4 d4 := by
  obtain ⟨_, l2, g2⟩ := Kd.R_reads' h.1
  obtain ⟨_, l3, g3⟩ := Kd.R_reads' h.2.1
  obtain ⟨_, l4, g4⟩ := Kd.R_reads' h.2.2
  exact ⟨l2, g2, l3, g3, l4, g4⟩
/-- a tree of one's own, and a number -/
def PutQ (w : World) (T : S26 × Int) (e : Ending) (w' : World) : Prop := ∃ A2 c2 A3 c3 A4 c4, e = .returned (.tuple #[TV T.1 A2 c2 A3 c3 A4 c4, .int .i64 T.2]) ∧ OT w' w.heap.size T.1 (.slice A2 T.1.f2.length c2) (.slice A3 T.1.f3.length c3) (.slice A4 T.1.f4.length c4) ∧ Below w.heap.size w w'
theorem PutQ.of {w w' : World} {R : S26 × Int} {r : S26} {k : Int} (hR : R = (r, k)) {A2 : Option Addr} {c2 : Nat} {A3 : Option Addr} {c3 : Nat} {A4 : Option Addr} {c4 base : Nat} (ho : OT w' base r (.slice A2 r.f2.length c2) (.slice A3 r.f3.length c3) (.slice A4 r.f4.length c4)) (hb : w.heap.size ≤ base) (hB : Below w.heap.size w w') :
    PutQ w R (.returned (.tuple #[.agg #[.int .i64 r.f0, .bool r.f1, .slice A2 r.f2.length c2, .slice A3 r.f3.length c3, .slice A4 r.f4.length c4], .int .i64 k])) w' := by
  subst hR
  exact ⟨A2, c2, A3, c3, A4, c4, rfl, ho.lower hb, hB⟩
theorem PutQ.zero {w w' : World} {R : S26 × Int} {k : Int} (hR : R = (z0, k)) (hB : Below w.heap.size w w') :
    PutQ w R (.returned (.tuple #[.agg #[.int .i64 0, .bool false, .slice none 0 0, .slice none 0 0, .slice none 0 0], .int .i64 k])) w' := by
  subst hR
  exact ⟨none, 0, none, 0, none, 0, rfl, ⟨Kd.R_nil _ _ _ _ _, Kd.R_nil _ _ _ _ _, Kd.R_nil _ _ _ _ _⟩, hB⟩
/-- Put, as a plain function -/
noncomputable def PutS (N M : Nat) (t : S26) (p : ByteArray) (x : S26) : S26 × Int :=
  if (chk N t 1 0).1 ≠ 0 then (z0, (chk N t 1 0).1)
  else if (chk M x 1 0).1 ≠ 0 then (z0, (chk M x 1 0).1)
  else if (partsS p).all isE = false then (z0, 9)
  else if (putS (partsS p) t x).2 ≠ 0 then (z0, (putS (partsS p) t x).2)
  else if (chk (N + M + (partsS p).length + 1) (putS (partsS p) t x).1 1 0).1 ≠ 0 then (z0, (chk (N + M + (partsS p).length + 1) (putS (partsS p) t x).1 1 0).1)
  else ((putS (partsS p) t x).1, 0)
section
variable {N M : Nat} {t x r : S26} {p : ByteArray} {k : Int}
theorem PutS_e1 (h1 : (chk N t 1 0).1 = k) (hk : k ≠ 0) : PutS N M t p x = (z0, k) := by
  unfold PutS; rw [h1, if_pos hk]
theorem PutS_e2 (h1 : (chk N t 1 0).1 = 0) (h2 : (chk M x 1 0).1 = k) (hk : k ≠ 0) : PutS N M t p x = (z0, k) := by
  unfold PutS; rw [h1, if_neg (by simp), h2, if_pos hk]
theorem PutS_e3 (h1 : (chk N t 1 0).1 = 0) (h2 : (chk M x 1 0).1 = 0) (h3 : (partsS p).all isE = false) : PutS N M t p x = (z0, 9) := by
  unfold PutS; rw [h1, if_neg (by simp), h2, if_neg (by simp), if_pos h3]
theorem PutS_e4 (h1 : (chk N t 1 0).1 = 0) (h2 : (chk M x 1 0).1 = 0) (h3 : (partsS p).all isE = true) (h4 : putS (partsS p) t x = (r, k)) (hk : k ≠ 0) : PutS N M t p x = (z0, k) := by
  unfold PutS; rw [h1, if_neg (by simp), h2, if_neg (by simp), if_neg (by rw [h3]; simp), h4, if_pos hk]
theorem PutS_e5 (h1 : (chk N t 1 0).1 = 0) (h2 : (chk M x 1 0).1 = 0) (h3 : (partsS p).all isE = true) (h4 : putS (partsS p) t x = (r, 0)) (h5 : (chk (N + M + (partsS p).length + 1) r 1 0).1 = k) (hk : k ≠ 0) : PutS N M t p x = (z0, k) := by
  unfold PutS; rw [h1, if_neg (by simp), h2, if_neg (by simp), if_neg (by rw [h3]; simp), h4, if_neg (by simp)]; simp only; rw [h5, if_pos hk]
theorem PutS_ok (h1 : (chk N t 1 0).1 = 0) (h2 : (chk M x 1 0).1 = 0) (h3 : (partsS p).all isE = true) (h4 : putS (partsS p) t x = (r, 0)) (h5 : (chk (N + M + (partsS p).length + 1) r 1 0).1 = 0) : PutS N M t p x = (r, 0) := by
  unfold PutS; rw [h1, if_neg (by simp), h2, if_neg (by simp), if_neg (by rw [h3]; simp), h4, if_neg (by simp)]; simp only; rw [h5, if_neg (by simp)]
end
set_option maxRecDepth 20000 in
set_option maxHeartbeats 8000000 in
theorem Put_any (N M : Nat) (t x : S26) (T2 : Option Addr) (e2 : Nat) (T3 : Option Addr) (e3 : Nat) (T4 : Option Addr) (e4 : Nat) (A2 : Option Addr) (c2 : Nat) (A3 : Option Addr) (c3 : Nat) (A4 : Option Addr) (c4 : Nat) (place : ByteArray) (w : World)
    (ht : TR w t T2 e2 T3 e3 T4 e4) (hx : TR w x A2 c2 A3 c3 A4 c4) (hGt : GT N t) (hGx : GT M x) (hg : G0 w) (hp : place.size < 1000000) :
    Calls Tryd.prog 16 #[TV t T2 e2 T3 e3 T4 e4, .string place, TV x A2 c2 A3 c3 A4 c4] w (PutQ w (PutS N M t place x)) := by
  have HT := Aside0.mk (And.intro ht (And.intro hx (And.intro hg (Nat.le_of_lt hp))))
  have HLP : ∀ l, partsS place = l → l.length ≤ 1000000 := fun l h => by
    rw [← h]
    unfold partsS
    split
    · simp
    · have hle := Lib.countB_le slash (by decide) place.size place (Nat.le_refl _)
      rw [Lib.splitB_all slash (by decide) 0 _ place rfl]
      omega
  have HLP := Aside0.mk HLP
  have HG := Aside0.mk (And.intro hGt hGx)
  clear ht hx hGt hGx hg hp
  have HW := Aside0.mk (PW.enter w t x T2 e2 T3 e3 T4 e4 A2 c2 A3 c3 A4 c4)
  go_enter Tryd.func16, Tryd.ntmps16
  go_upto_region 1 with fail
  generalize (((w.alloc (bx t T2 e2 T3 e3 T4 e4)).alloc (bx x A2 c2 A3 c3 A4 c4)).alloc (.cells #[.int .i64 0, .bool false, .slice none 0 0, .slice none 0 0, .slice none 0 0] 26)) = w3 at *
  obtain ⟨a, ha⟩ : ∃ q, w.heap.size = q := ⟨_, rfl⟩
  rw [ha] at HW ⊢
  have HA := Aside0.mk ha
  clear ha
  obtain ⟨b, hb⟩ : ∃ q, a + 1 = q := ⟨_, rfl⟩
  rw [hb] at HW ⊢
  clear hb
  obtain ⟨c, hc⟩ : ∃ q, b + 1 = q := ⟨_, rfl⟩
  rw [hc] at HW ⊢
  clear hc
  obtain ⟨x0, x1, x2, x3, x4⟩ := cells5 HW.out.ba
  go_wp2_with fail
  clear x0 x1 x2 x3 x4
  refine (Check_any N t T2 e2 T3 e3 T4 e4 w3 (HT.out.1.below HW.out.bel) HG.out.1).mono ?_
  rintro e w4 ⟨rfl, hb⟩
  have HW := Aside0.mk (HW.out.step hb)
  clear hb
  obtain ⟨k1, hk1⟩ : ∃ q, (chk N t 1 0).1 = q := ⟨_, rfl⟩
  rw [hk1]
  have HK1 := Aside0.mk hk1
  clear hk1
  by_cases hz : k1 = 0
  rotate_left
  · skip
    have hkb : (k1 != 0) = true := by simpa using hz
    have HP : Aside0 (PutS N M t place x = (z0, k1)) := ⟨PutS_e1 HK1.out hz⟩
    clear hz
    obtain ⟨b0, b1, b2, b3, b4⟩ := cells5 HW.out.bc
    have f0 := blk_frozen HW.out.bc 0
    have f1 := blk_frozen HW.out.bc 1
    have f2 := blk_frozen HW.out.bc 2
    have f3 := blk_frozen HW.out.bc 3
    have f4 := blk_frozen HW.out.bc 4
    have HF := Aside0.mk (HW.out.setc (.int .i64 0) (.bool false) (.slice none 0 0) (.slice none 0 0) (.slice none 0 0))
    go_wp2_with fail
    refine bodyPost_ret (results_c1 rfl _ _ c 26 _ (0, 0) _ rfl HF.out.bc Tryd.underlying26 rfl (by kernel_rfl)) rfl ?_
    exact PutQ.zero HP.out HF.out.bel
  subst hz
  obtain ⟨x0, x1, x2, x3, x4⟩ := cells5 HW.out.bb
  go_wp2_with fail
  clear x0 x1 x2 x3 x4
  refine (Check_any M x A2 c2 A3 c3 A4 c4 w4 (HT.out.2.1.below HW.out.bel) HG.out.2).mono ?_
  rintro e w5 ⟨rfl, hb⟩
  have HW := Aside0.mk (HW.out.step hb)
  clear hb
  obtain ⟨k2, hk2⟩ : ∃ q, (chk M x 1 0).1 = q := ⟨_, rfl⟩
  rw [hk2]
  have HK2 := Aside0.mk hk2
  clear hk2
  by_cases hz : k2 = 0
  rotate_left
  · skip
    have hkb : (k2 != 0) = true := by simpa using hz
    have HP : Aside0 (PutS N M t place x = (z0, k2)) := ⟨PutS_e2 HK1.out HK2.out hz⟩
    clear hz
    obtain ⟨b0, b1, b2, b3, b4⟩ := cells5 HW.out.bc
    have f0 := blk_frozen HW.out.bc 0
    have f1 := blk_frozen HW.out.bc 1
    have f2 := blk_frozen HW.out.bc 2
    have f3 := blk_frozen HW.out.bc 3
    have f4 := blk_frozen HW.out.bc 4
    have HF := Aside0.mk (HW.out.setc (.int .i64 0) (.bool false) (.slice none 0 0) (.slice none 0 0) (.slice none 0 0))
    go_wp2_with fail
    refine bodyPost_ret (results_c1 rfl _ _ c 26 _ (0, 0) _ rfl HF.out.bc Tryd.underlying26 rfl (by kernel_rfl)) rfl ?_
    exact PutQ.zero HP.out HF.out.bel
  subst hz
  go_wp2_with fail
  refine (parts_any place w5 (HT.out.2.2.1.below HW.out.bel) HT.out.2.2.2).mono ?_
  rintro e w6 ⟨LA, lc, rfl, hlc, hC, hb⟩
  have HW := Aside0.mk (HW.out.step hb)
  clear hb
  obtain ⟨l, hl⟩ : ∃ q, partsS place = q := ⟨_, rfl⟩
  obtain ⟨ok, hok⟩ : ∃ q, l.all isE = q := ⟨_, rfl⟩
  rw [hl] at hlc hC ⊢
  rw [hok]
  have HL := Aside0.mk (And.intro hl hok)
  have HC := Aside0.mk (And.intro hC hlc)
  clear hl hok hC hlc
  cases ok with
  | false =>
    have HP : Aside0 (PutS N M t place x = (z0, 9)) := ⟨PutS_e3 HK1.out HK2.out (by rw [HL.out.1]; exact HL.out.2)⟩
    obtain ⟨b0, b1, b2, b3, b4⟩ := cells5 HW.out.bc
    have f0 := blk_frozen HW.out.bc 0
    have f1 := blk_frozen HW.out.bc 1
    have f2 := blk_frozen HW.out.bc 2
    have f3 := blk_frozen HW.out.bc 3
    have f4 := blk_frozen HW.out.bc 4
    have HF := Aside0.mk (HW.out.setc (.int .i64 0) (.bool false) (.slice none 0 0) (.slice none 0 0) (.slice none 0 0))
    go_wp2_with fail
    refine bodyPost_ret (results_c1 rfl _ _ c 26 _ (0, 0) _ rfl HF.out.bc Tryd.underlying26 rfl (by kernel_rfl)) rfl ?_
    exact PutQ.zero HP.out HF.out.bel
  | true =>
    obtain ⟨x0, x1, x2, x3, x4⟩ := cells5 HW.out.ba
    obtain ⟨b0, b1, b2, b3, b4⟩ := cells5 HW.out.bb
    go_wp2_with fail
    clear x0 x1 x2 x3 x4
    clear b0 b1 b2 b3 b4
    obtain ⟨N', hN'⟩ := GT_pos HG.out.1
    have HO : Aside0 (Okt (N' + 1) t) := ⟨hN' ▸ chk_okt N t 1 0 HG.out.1 (by omega) HK1.out⟩
    obtain ⟨⟨r, k⟩, hr⟩ : ∃ q, putS l t x = q := ⟨_, rfl⟩
    have IHc := put_any w6 l (HLP.out l HL.out.1) N' t x T2 e2 T3 e3 T4 e4 A2 c2 A3 c3 A4 c4 LA lc w6 (Below.refl _ w6) (HT.out.1.below HW.out.bel) (HT.out.2.1.below HW.out.bel) HC.out.1 HC.out.2 HO.out
    rw [hr] at IHc
    have HGR : Aside0 (GT (N + M + l.length + 1) r) := ⟨by have h9 := put_GT l N (N' + 1) M (N + M + l.length + 1) t x HG.out.1 HO.out HG.out.2 (fun n hn => isE_size (List.all_eq_true.1 HL.out.2 n hn)) (by omega); rw [hr] at h9; exact h9⟩
    have HR := Aside0.mk hr
    clear hr
    refine IHc.mono ?_
    clear IHc
    rintro e w7 ⟨G2, g2, G3, g3, G4, g4, rfl, hkg, hb7⟩
    simp only [TV]
    have HW := Aside0.mk (HW.out.step hb7)
    have HTR := Aside0.mk (TR.of hkg.here)
    clear hkg hb7 hN'
    go_upto_region 11 with fail
    have hal := below_alloc (Below.refl _ w7) (.cells #[(.int .i64 r.f0), (.bool r.f1), (.slice G2 r.f2.length g2), (.slice G3 r.f3.length g3), (.slice G4 r.f4.length g4)] 26)
    have HE := Aside0.mk (heap_alloc_new w7 (.cells #[(.int .i64 r.f0), (.bool r.f1), (.slice G2 r.f2.length g2), (.slice G3 r.f3.length g3), (.slice G4 r.f4.length g4)] 26))
    have HW := Aside0.mk (HW.out.step hal)
    have HTR := Aside0.mk (HTR.out.below hal)
    clear hal
    obtain ⟨eb, heb⟩ : ∃ q, w7.heap.size = q := ⟨_, rfl⟩
    rw [heb] at HE ⊢
    clear heb
    generalize w7.alloc (.cells #[(.int .i64 r.f0), (.bool r.f1), (.slice G2 r.f2.length g2), (.slice G3 r.f3.length g3), (.slice G4 r.f4.length g4)] 26) = w8 at *
    by_cases hz : k = 0
    rotate_left
    · skip
      have hkb : (k != 0) = true := by simpa using hz
      have HP : Aside0 (PutS N M t place x = (z0, k)) := ⟨PutS_e4 HK1.out HK2.out (by rw [HL.out.1]; exact HL.out.2) (by rw [HL.out.1]; exact HR.out) hz⟩
      clear hz
      obtain ⟨b0, b1, b2, b3, b4⟩ := cells5 HW.out.bc
      have f0 := blk_frozen HW.out.bc 0
      have f1 := blk_frozen HW.out.bc 1
      have f2 := blk_frozen HW.out.bc 2
      have f3 := blk_frozen HW.out.bc 3
      have f4 := blk_frozen HW.out.bc 4
      have HF := Aside0.mk (HW.out.setc (.int .i64 0) (.bool false) (.slice none 0 0) (.slice none 0 0) (.slice none 0 0))
      go_wp2_with fail
      refine bodyPost_ret (results_c1 rfl _ _ c 26 _ (0, 0) _ rfl HF.out.bc Tryd.underlying26 rfl (by kernel_rfl)) rfl ?_
      exact PutQ.zero HP.out HF.out.bel
    subst hz
    obtain ⟨x0, x1, x2, x3, x4⟩ := cells5 HE.out
    go_wp2_with fail
    clear x0 x1 x2 x3 x4
    refine (Check_any (N + M + l.length + 1) r G2 g2 G3 g3 G4 g4 w8 HTR.out HGR.out).mono ?_
    rintro e w9 ⟨rfl, hb⟩
    have HW := Aside0.mk (HW.out.step hb)
    have HTR := Aside0.mk (HTR.out.below hb)
    have HE := Aside0.mk ((hb.block _ (blk_lt HE.out)).trans HE.out)
    clear hb
    obtain ⟨k3, hk3⟩ : ∃ q, (chk (N + M + l.length + 1) r 1 0).1 = q := ⟨_, rfl⟩
    rw [hk3]
    have HK3 := Aside0.mk hk3
    clear hk3
    by_cases hz : k3 = 0
    rotate_left
    · skip
      have hkb : (k3 != 0) = true := by simpa using hz
      have HP : Aside0 (PutS N M t place x = (z0, k3)) := ⟨PutS_e5 HK1.out HK2.out (by rw [HL.out.1]; exact HL.out.2) (by rw [HL.out.1]; exact HR.out) (by rw [HL.out.1]; exact HK3.out) hz⟩
      clear hz
      obtain ⟨b0, b1, b2, b3, b4⟩ := cells5 HW.out.bc
      have f0 := blk_frozen HW.out.bc 0
      have f1 := blk_frozen HW.out.bc 1
      have f2 := blk_frozen HW.out.bc 2
      have f3 := blk_frozen HW.out.bc 3
      have f4 := blk_frozen HW.out.bc 4
      have HF := Aside0.mk (HW.out.setc (.int .i64 0) (.bool false) (.slice none 0 0) (.slice none 0 0) (.slice none 0 0))
      go_wp2_with fail
      refine bodyPost_ret (results_c1 rfl _ _ c 26 _ (0, 0) _ rfl HF.out.bc Tryd.underlying26 rfl (by kernel_rfl)) rfl ?_
      exact PutQ.zero HP.out HF.out.bel
    subst hz
    obtain ⟨x0, x1, x2, x3, x4⟩ := cells5 HE.out
    go_wp2_with fail
    clear x0 x1 x2 x3 x4
    refine (own_any (N + M + l.length + 1) r G2 g2 G3 g3 G4 g4 w9 HTR.out HGR.out).mono ?_
    rintro e w10 ⟨J2, j2, J3, j3, J4, j4, rfl, ho, htr, hb⟩
    simp only [TV]
    have HCL : Aside0 (c < w9.heap.size) := ⟨blk_lt HW.out.bc⟩
    have HW := Aside0.mk (HW.out.step hb)
    have HSZ := Aside0.mk (HW.out.lo.2.2)
    have HOT := Aside0.mk ho
    clear hb ho htr
    obtain ⟨b0, b1, b2, b3, b4⟩ := cells5 HW.out.bc
    have f0 := blk_frozen HW.out.bc 0
    have f1 := blk_frozen HW.out.bc 1
    have f2 := blk_frozen HW.out.bc 2
    have f3 := blk_frozen HW.out.bc 3
    have f4 := blk_frozen HW.out.bc 4
    have HF := Aside0.mk (HW.out.setc (.int .i64 r.f0) (.bool r.f1) (.slice J2 r.f2.length j2) (.slice J3 r.f3.length j3) (.slice J4 r.f4.length j4))
    have HP : Aside0 (PutS N M t place x = (r, 0)) := ⟨PutS_ok HK1.out HK2.out (by rw [HL.out.1]; exact HL.out.2) (by rw [HL.out.1]; exact HR.out) (by rw [HL.out.1]; exact HK3.out)⟩
    go_wp2_with fail
    refine bodyPost_ret (results_c1 rfl _ _ c 26 _ (0, 0) _ rfl HF.out.bc Tryd.underlying26 rfl (by kernel_rfl)) rfl ?_
    exact PutQ.of HP.out (HOT.out.setb HCL.out _ _ _ _ _) (by have := HSZ.out; have := HCL.out; omega) HF.out.bel
end Go.Proofs.YtfnofjcdaghniaaDoor.Tree
