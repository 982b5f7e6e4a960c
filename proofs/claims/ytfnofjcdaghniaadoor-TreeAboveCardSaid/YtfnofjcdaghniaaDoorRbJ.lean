/- tree.At, walked. Own work; printed by gen_at.py. -/
import Derived.Test.YtfnofjcdaghniaaDoorKnJ
namespace Go.Proofs.YtfnofjcdaghniaaDoor.Tree
set_option linter.unusedVariables false
set_option linter.unusedSimpArgs false
open Go.RowKit Go.Proofs.YtfnofjcdaghniaaDoor.PL Go.Proofs.YtfnofjcdaghniaaDoor.Mt Go.Proofs.YtfnofjcdaghniaaDoorW.PrintWords Go.Proofs.YtfnofjcdaghniaaDoorW.PrintLast Go.Proofs.YtfnofjcdaghniaaDoorW.PrintMore
/-- At behind the names, as a plain function -/
def atS : List ByteArray → S26 → S26 × Int
  | [], t => (t, 0)
  | n :: l, t => if hasS t.f3 n = true then atS l (t.f4.getD (posS t.f3 n) dir0) else (z0, 7)
noncomputable def AtS (N : Nat) (t : S26) (p : ByteArray) : S26 × Int :=
  if (chk N t 1 0).1 ≠ 0 then (z0, (chk N t 1 0).1) else if (partsS p).all isE = false then (z0, 9) else atS (partsS p) t
/-- two boxes -/
structure AW (w wr : World) (a c : Nat) (oa oc : Array Value) : Prop where
  ba : wr.heap[a]? = some (.cells oa 26 (0, 0))
  bc : wr.heap[c]? = some (.cells oc 26 (0, 0))
  ne : a ≠ c
  lo : w.heap.size ≤ a ∧ w.heap.size ≤ c
  bel : Below w.heap.size w wr
theorem AW.step {w wr w2 : World} {a c : Nat} {oa oc : Array Value} (h : AW w wr a c oa oc) (hb : Below wr.heap.size wr w2) : AW w w2 a c oa oc :=
  ⟨(hb.block _ (blk_lt h.ba)).trans h.ba, (hb.block _ (blk_lt h.bc)).trans h.bc, h.ne, h.lo, below_then h.bel h.bel.size hb⟩
theorem AW.setc {w wr : World} {a c : Nat} {oa : Array Value} {a0 b0 c0 d0 e0 : Value} (h : AW w wr a c oa #[a0, b0, c0, d0, e0]) (x0 x1 x2 x3 x4 : Value) :
    AW w (((((wr.setCell ⟨c, 0, none⟩ x0).setCell ⟨c, 1, none⟩ x1).setCell ⟨c, 2, none⟩ x2).setCell ⟨c, 3, none⟩ x3).setCell ⟨c, 4, none⟩ x4) a c oa #[x0, x1, x2, x3, x4] :=
  ⟨(box_far h.ne _ _ _ _ _).trans h.ba, box_same h.bc _ _ _ _ _, h.ne, h.lo, box_below h.bel h.lo.2 _ _ _ _ _⟩
theorem AW.seta {w wr : World} {a c : Nat} {oc : Array Value} {a0 b0 c0 d0 e0 : Value} (h : AW w wr a c #[a0, b0, c0, d0, e0] oc) (x0 x1 x2 x3 x4 : Value) :
    AW w (((((wr.setCell ⟨a, 0, none⟩ x0).setCell ⟨a, 1, none⟩ x1).setCell ⟨a, 2, none⟩ x2).setCell ⟨a, 3, none⟩ x3).setCell ⟨a, 4, none⟩ x4) a c #[x0, x1, x2, x3, x4] oc :=
  ⟨box_same h.ba _ _ _ _ _, (box_far h.ne.symm _ _ _ _ _).trans h.bc, h.ne, h.lo, box_below h.bel h.lo.1 _ _ _ _ _⟩
theorem AW.enter (w : World) (t : S26) (A2 : Option Addr) (c2 : Nat) (A3 : Option Addr) (c3 : Nat) (A4 : Option Addr) (c4 : Nat) :
    AW w ((w.alloc (bx t A2 c2 A3 c3 A4 c4)).alloc (.cells #[.int .i64 0, .bool false, .slice none 0 0, .slice none 0 0, .slice none 0 0] 26)) w.heap.size (w.heap.size + 1) #[.int .i64 t.f0, .bool t.f1, .slice A2 t.f2.length c2, .slice A3 t.f3.length c3, .slice A4 t.f4.length c4] #[.int .i64 0, .bool false, .slice none 0 0, .slice none 0 0, .slice none 0 0] := by
  obtain ⟨w1, hw1⟩ : ∃ q, w.alloc (bx t A2 c2 A3 c3 A4 c4) = q := ⟨_, rfl⟩
  have h1 : Below w.heap.size w w1 := hw1 ▸ below_alloc (Below.refl _ w) _
  have z1 : w1.heap.size = w.heap.size + 1 := by rw [← hw1]; simp
  have k1 : w1.heap[w.heap.size]? = some (bx t A2 c2 A3 c3 A4 c4) := hw1 ▸ heap_alloc_new w _
  have k2 := heap_alloc_new w1 (.cells #[.int .i64 0, .bool false, .slice none 0 0, .slice none 0 0, .slice none 0 0] 26)
  rw [z1] at k2
  rw [hw1]
  exact ⟨blk_alloc k1 _, k2, by omega, by omega, below_alloc h1 _⟩
theorem OktS {N : Nat} {t : S26} (h : Okt N t) : Srt t.f3 ∧ t.f3.length ≤ 1000000 := by
  cases N with
  | zero => exact h.elim
  | succ N => exact ⟨h.2.1, by have := h.2.2.1; omega⟩
theorem OktL {N : Nat} {t : S26} (h : Okt N t) : t.f3.length = t.f4.length := by
  cases N with
  | zero => exact h.elim
  | succ N => exact h.1
theorem Okt_mono : ∀ {N M : Nat} {t : S26}, Okt N t → N ≤ M → Okt M t := by
  intro N
  induction N with
  | zero => intro M t h; exact h.elim
  | succ N ih =>
    intro M t h hm
    cases M with
    | zero => omega
    | succ M => exact ⟨h.1, h.2.1, h.2.2.1, fun a ha => ih (h.2.2.2 a ha) (by omega)⟩
theorem Okt_kid {N : Nat} {t u : S26} (h : Okt N t) (hu : u ∈ t.f4) : Okt N u := by
  cases N with
  | zero => exact h.elim
  | succ N => exact Okt_mono (h.2.2.2 u hu) (by omega)
theorem GT_kid {N : Nat} {t u : S26} (h : GT N t) (hu : u ∈ t.f4) : GT N u := by
  cases N with
  | zero => exact h.elim
  | succ N => exact GT_mono (h.2.2.2.2.2 u hu) (by omega)
theorem C_set {w : World} {A : Option Addr} {l : List ByteArray} {p : Addr} {u : Value} (v : Value) (h : Kd.string.C w A l.length l) (hp : w.cell? p = some u) (hu : ∀ s, u ≠ .string s) : Kd.string.C (w.setCell p v) A l.length l := by
  obtain ⟨h1, h2, h3⟩ := h
  refine ⟨h1, h2, fun h0 => ?_⟩
  obtain ⟨ad, e, hc⟩ := h3 h0
  refine ⟨ad, e, fun j q hq => ?_⟩
  obtain ⟨c, g1, g2, g3⟩ := hc j q hq
  refine ⟨c, g1, g2, fun i x hx => ?_⟩
  have g4 := g3 i x hx
  rw [World.cell?_setCell_other _ _ _ _ (fun e => ?_)]
  · exact g4
  · rw [← e, hp] at g4
    have hcq : c = [.string q] := g2
    rw [hcq] at hx
    cases i with
    | zero => simp at hx; subst hx; exact hu q (Option.some.inj g4)
    | succ i => simp at hx
theorem CS_box {w : World} {A : Option Addr} {l : List ByteArray} {a : Nat} {k : Int} {b : Bool} {P2 : Option Addr} {n2 d2 : Nat} {P3 : Option Addr} {n3 d3 : Nat} {P4 : Option Addr} {n4 d4 : Nat} (h : Kd.string.C w A l.length l)
    (ha : w.heap[a]? = some (.cells #[.int .i64 k, .bool b, .slice P2 n2 d2, .slice P3 n3 d3, .slice P4 n4 d4] 26 (0, 0))) (v0 v1 v2 v3 v4 : Value) :
    Kd.string.C (((((w.setCell ⟨a, 0, none⟩ v0).setCell ⟨a, 1, none⟩ v1).setCell ⟨a, 2, none⟩ v2).setCell ⟨a, 3, none⟩ v3).setCell ⟨a, 4, none⟩ v4) A l.length l := by
  have b1 := blk_set ha 0 v0
  have b2 := blk_set b1 1 v1
  have b3 := blk_set b2 2 v2
  have b4 := blk_set b3 3 v3
  have s1 := C_set v0 h ((blk_cell ha 0).trans rfl) (fun s => by simp)
  have s2 := C_set v1 s1 ((blk_cell b1 1).trans rfl) (fun s => by simp)
  have s3 := C_set v2 s2 ((blk_cell b2 2).trans rfl) (fun s => by simp)
  have s4 := C_set v3 s3 ((blk_cell b3 3).trans rfl) (fun s => by simp)
  exact C_set v4 s4 ((blk_cell b4 4).trans rfl) (fun s => by simp)
set_option maxRecDepth 20000 in
set_option maxHeartbeats 8000000 in
theorem At_any (N : Nat) (t : S26) (A2 : Option Addr) (c2 : Nat) (A3 : Option Addr) (c3 : Nat) (A4 : Option Addr) (c4 : Nat) (place : ByteArray) (w : World)
    (ht : TR w t A2 c2 A3 c3 A4 c4) (hGt : GT N t) (hg : G0 w) (hp : place.size ≤ 999999) :
    Calls Tryd.prog 19 #[TV t A2 c2 A3 c3 A4 c4, .string place] w (PutQ w (AtS N t place)) := by
  have HT := Aside0.mk (And.intro ht (And.intro hg (show place.size ≤ 1000000 by omega)))
  have HG := Aside0.mk hGt
  clear ht hGt hg hp
  have HW := Aside0.mk (AW.enter w t A2 c2 A3 c3 A4 c4)
  go_enter Tryd.func19, Tryd.ntmps19
  go_upto_region 1 with fail
  generalize ((w.alloc (bx t A2 c2 A3 c3 A4 c4)).alloc (.cells #[.int .i64 0, .bool false, .slice none 0 0, .slice none 0 0, .slice none 0 0] 26)) = w3 at *
  obtain ⟨a, ha⟩ : ∃ q, w.heap.size = q := ⟨_, rfl⟩
  rw [ha] at HW ⊢
  clear ha
  obtain ⟨c, hc⟩ : ∃ q, a + 1 = q := ⟨_, rfl⟩
  rw [hc] at HW ⊢
  clear hc
  obtain ⟨x0, x1, x2, x3, x4⟩ := cells5 HW.out.ba
  go_wp2_with fail
  clear x0 x1 x2 x3 x4
  refine (Check_any N t A2 c2 A3 c3 A4 c4 w3 (HT.out.1.below HW.out.bel) HG.out).mono ?_
  rintro e w4 ⟨rfl, hb⟩
  have HW := Aside0.mk (HW.out.step hb)
  clear hb
  obtain ⟨k1, hk1⟩ : ∃ q, (chk N t 1 0).1 = q := ⟨_, rfl⟩
  rw [hk1]
  have HK1 := Aside0.mk hk1
  clear hk1
  by_cases hz : k1 = 0
  rotate_left
  · skip
    have hkb : (k1 != 0) = true := by simpa using hz
    have HP := Aside0.mk (show AtS N t place = (z0, k1) from by unfold AtS; rw [HK1.out, if_pos hz])
    obtain ⟨b0, b1, b2, b3, b4⟩ := cells5 HW.out.bc
    have f0 := blk_frozen HW.out.bc 0
    have f1 := blk_frozen HW.out.bc 1
    have f2 := blk_frozen HW.out.bc 2
    have f3 := blk_frozen HW.out.bc 3
    have f4 := blk_frozen HW.out.bc 4
    have HF := Aside0.mk (HW.out.setc (.int .i64 0) (.bool false) (.slice none 0 0) (.slice none 0 0) (.slice none 0 0))
    clear hz
    go_wp2_with fail
    refine bodyPost_ret (results_c1 rfl _ _ c 26 _ (0, 0) _ rfl HF.out.bc Tryd.underlying26 rfl (by kernel_rfl)) rfl ?_
    exact PutQ.zero HP.out HF.out.bel
  subst hz
  go_wp2_with fail
  refine (parts_any place w4 (HT.out.2.1.below HW.out.bel) HT.out.2.2).mono ?_
  rintro e w6 ⟨LA, lc, rfl, hlc, hC, hb⟩
  have HW := Aside0.mk (HW.out.step hb)
  clear hb
  obtain ⟨l, hl⟩ : ∃ q, partsS place = q := ⟨_, rfl⟩
  obtain ⟨ok, hok⟩ : ∃ q, l.all isE = q := ⟨_, rfl⟩
  have hll : l.length ≤ 1000001 := by rw [← hl]; exact partsS_len place HT.out.2.2
  rw [hl] at hlc hC ⊢
  rw [hok]
  have HL := Aside0.mk (And.intro hl hok)
  have HC := Aside0.mk (And.intro hC hlc)
  clear hl hok hC hlc
  cases ok with
  | false =>
    have HP := Aside0.mk (show AtS N t place = (z0, 9) from by unfold AtS; rw [HK1.out, if_neg (by simp), HL.out.1, if_pos HL.out.2])
    obtain ⟨b0, b1, b2, b3, b4⟩ := cells5 HW.out.bc
    have f0 := blk_frozen HW.out.bc 0
    have f1 := blk_frozen HW.out.bc 1
    have f2 := blk_frozen HW.out.bc 2
    have f3 := blk_frozen HW.out.bc 3
    have f4 := blk_frozen HW.out.bc 4
    have HF := Aside0.mk (HW.out.setc (.int .i64 0) (.bool false) (.slice none 0 0) (.slice none 0 0) (.slice none 0 0))
    go_wp2_with fail
    refine bodyPost_ret (results_c1 rfl _ _ c 26 _ (0, 0) _ rfl HF.out.bc Tryd.underlying26 rfl (by kernel_rfl)) rfl ?_
    exact PutQ.zero HP.out HF.out.bel
  | true =>
    have HAT : Aside0 (AtS N t place = atS l t) := ⟨by unfold AtS; rw [HK1.out, if_neg (by simp), HL.out.1, if_neg (by rw [HL.out.2]; simp)]⟩
    have HO : Aside0 (Okt N t) := ⟨chk_okt N t 1 0 HG.out (by omega) HK1.out⟩
    go_wp2_with fail
    go_loopw [29] (fun v wr => ∃ (k : Nat) (u : S26) (B2 : Option Addr) (d2 : Nat) (B3 : Option Addr) (d3 : Nat) (B4 : Option Addr) (d4 : Nat), v = .int .i64 (k : Int) ∧ k ≤ l.length ∧ Aside0 (atS l t = atS (l.drop k) u) ∧ Aside0 (TR w u B2 d2 B3 d3 B4 d4) ∧ Aside0 (GT N u) ∧ Aside0 (Okt N u) ∧ Aside0 (Below w6.heap.size w6 wr ∨ True) ∧ Aside0 (Kd.string.C wr LA l.length l) ∧ Aside0 (AW w wr a c #[.int .i64 u.f0, .bool u.f1, .slice B2 u.f2.length d2, .slice B3 u.f3.length d3, .slice B4 u.f4.length d4] #[.int .i64 0, .bool false, .slice none 0 0, .slice none 0 0, .slice none 0 0])) (fun v _ => l.length - (intOf v).toNat)
    case atStart => exact ⟨0, t, A2, c2, A3, c3, A4, c4, rfl, Nat.zero_le _, ⟨rfl⟩, ⟨HT.out.1⟩, HG, HO, ⟨.inr trivial⟩, ⟨HC.out.1⟩, HW⟩
    case round =>
      clear HW HO
      obtain ⟨k, u, B2, d2, B3, d3, B4, d4, rfl, hk, HE, HTU, HGU, HOU, -, HCL, HW⟩ := hrel
      by_cases hlt : k < l.length
      · skip
        obtain ⟨ad, hA, hcn⟩ := Kd.at_string HCL.out (k : Int) (by omega) (by omega)
        obtain ⟨nm, hnm⟩ : ∃ x, rdOf ByteArray.empty l (k : Int) = x := ⟨_, rfl⟩
        have hne : l[k] = nm := by rw [← hnm, rdB hlt]
        rw [hnm, Int.toNat_natCast] at hcn
        subst hA
        have HE2 : Aside0 (atS l t = atS (nm :: l.drop (k + 1)) u) := ⟨by rw [HE.out, List.drop_eq_getElem_cons hlt, hne]⟩
        clear hne hnm HE
        obtain ⟨x0, x1, x2, x3, x4⟩ := cells5 HW.out.ba
        go_wp2_with fail
        clear hcn x0 x1 x2 x3 x4
        refine (bs_any B3 d3 wr (OktS HOU.out).1 (OktS HOU.out).2 (Kd.C_below HTU.out.2.2.2.1 HW.out.bel) HTU.out.2.2.1).mono ?_
        rintro e w7 ⟨rfl, hd⟩
        obtain ⟨dn, rfl⟩ := hd
        have hdr := pw_below_drewN (Below.refl wr.heap.size wr) dn
        have HW := Aside0.mk (HW.out.step hdr)
        have HCL := Aside0.mk (Kd.C_below HCL.out hdr)
        clear hdr
        generalize wr.drewN dn = w8 at *
        obtain ⟨i, hi⟩ : ∃ q, posS u.f3 nm = q := ⟨_, rfl⟩
        obtain ⟨h, hh⟩ : ∃ q, hasS u.f3 nm = q := ⟨_, rfl⟩
        rw [hi, hh]
        have HI := Aside0.mk (And.intro hi hh)
        clear hi hh
        cases h with
        | false =>
          have HP := Aside0.mk (show AtS N t place = (z0, 7) from by rw [HAT.out, HE2.out, atS, if_neg (by rw [HI.out.2]; simp)])
          obtain ⟨b0, b1, b2, b3, b4⟩ := cells5 HW.out.bc
          have f0 := blk_frozen HW.out.bc 0
          have f1 := blk_frozen HW.out.bc 1
          have f2 := blk_frozen HW.out.bc 2
          have f3 := blk_frozen HW.out.bc 3
          have f4 := blk_frozen HW.out.bc 4
          have HF := Aside0.mk (HW.out.setc (.int .i64 0) (.bool false) (.slice none 0 0) (.slice none 0 0) (.slice none 0 0))
          go_wp2_with fail
          refine bodyPost_ret (results_c1 rfl _ _ c 26 _ (0, 0) _ rfl HF.out.bc Tryd.underlying26 rfl (by kernel_rfl)) rfl ?_
          exact PutQ.zero HP.out HF.out.bel
        | true =>
          have hil : i < u.f4.length := by
            have h1 := HI.out.1
            have h2 := HI.out.2
            have h3 := OktL HOU.out
            unfold hasS at h2
            rw [h1] at h2
            have := (List.getElem?_eq_some_iff.1 (of_decide_eq_true h2)).1
            omega
          obtain ⟨ad4, C2, q2, C3, q3, C4, q4, hA4, e0, e1, e2_, e3_, e4_, r1, r2, r3, r4, r5, r6⟩ := at_T26 HTU.out.2.2.2.2.2 (i : Int) (by omega) (by omega)
          obtain ⟨v, hv⟩ : ∃ x, rd_T26 u.f4 (i : Int) = x := ⟨_, rfl⟩
          have hve : u.f4[i] = v := by rw [← hv, rdT hil]
          rw [hv] at e0 e1 e2_ e3_ e4_ r1 r2 r3 r4 r5 r6
          rw [Int.toNat_natCast] at e0 e1 e2_ e3_ e4_
          have HTV : Aside0 (TR w v C2 q2 C3 q3 C4 q4) := ⟨⟨r1, r2, r3, r4, r5, r6⟩⟩
          have HV : Aside0 (u.f4.getD i dir0 = v) := ⟨by rw [List.getD_eq_getElem?_getD, List.getElem?_eq_getElem hil]; exact hve⟩
          have hvm : v ∈ u.f4 := hve ▸ List.getElem_mem hil
          have HGV : Aside0 (GT N v) := ⟨GT_kid HGU.out hvm⟩
          have HOV : Aside0 (Okt N v) := ⟨Okt_kid HOU.out hvm⟩
          have HE3 : Aside0 (atS l t = atS (l.drop (k + 1)) v) := ⟨by rw [HE2.out, atS, if_pos HI.out.2, HI.out.1, HV.out]⟩
          subst hA4
          have g0 := pw_cell_below HW.out.bel e0
          have g1 := pw_cell_below HW.out.bel e1
          have g2 := pw_cell_below HW.out.bel e2_
          have g3 := pw_cell_below HW.out.bel e3_
          have g4 := pw_cell_below HW.out.bel e4_
          clear hv hve hvm e0 e1 e2_ e3_ e4_ r1 r2 r3 r4 r5 r6 HE2
          obtain ⟨x0, x1, x2, x3, x4⟩ := cells5 HW.out.ba
          have f0 := blk_frozen HW.out.ba 0
          have f1 := blk_frozen HW.out.ba 1
          have f2 := blk_frozen HW.out.ba 2
          have f3 := blk_frozen HW.out.ba 3
          have f4 := blk_frozen HW.out.ba 4
          have hil4 : (i : Int) < (u.f4.length : Int) := by omega
          have HCN := Aside0.mk (CS_box HCL.out HW.out.ba (.int .i64 v.f0) (.bool v.f1) (.slice C2 v.f2.length q2) (.slice C3 v.f3.length q3) (.slice C4 v.f4.length q4))
          have HWN := Aside0.mk (HW.out.seta (.int .i64 v.f0) (.bool v.f1) (.slice C2 v.f2.length q2) (.slice C3 v.f3.length q3) (.slice C4 v.f4.length q4))
          go_wp2_with fail
          exact ⟨⟨k + 1, v, C2, q2, C3, q3, C4, q4, by go_num, by omega, HE3, HTV, HGV, HOV, ⟨.inr trivial⟩, HCN, HWN⟩, by simp [intOf]; omega⟩
      · skip
        have hkk : k = l.length := by omega
        have HE4 : Aside0 (AtS N t place = (u, 0)) := ⟨by rw [HAT.out, HE.out, hkk, List.drop_length, atS]⟩
        clear hkk HE
        obtain ⟨x0, x1, x2, x3, x4⟩ := cells5 HW.out.ba
        go_wp2_with fail
        clear x0 x1 x2 x3 x4
        refine (own_any N u B2 d2 B3 d3 B4 d4 wr (HTU.out.below HW.out.bel) HGU.out).mono ?_
        rintro e w10 ⟨J2, j2, J3, j3, J4, j4, rfl, ho, htr, hb⟩
        simp only [TV]
        have HCB : Aside0 (c < wr.heap.size) := ⟨blk_lt HW.out.bc⟩
        have HW := Aside0.mk (HW.out.step hb)
        have HOT := Aside0.mk ho
        clear hb ho htr
        obtain ⟨b0, b1, b2, b3, b4⟩ := cells5 HW.out.bc
        have f0 := blk_frozen HW.out.bc 0
        have f1 := blk_frozen HW.out.bc 1
        have f2 := blk_frozen HW.out.bc 2
        have f3 := blk_frozen HW.out.bc 3
        have f4 := blk_frozen HW.out.bc 4
        have HF := Aside0.mk (HW.out.setc (.int .i64 u.f0) (.bool u.f1) (.slice J2 u.f2.length j2) (.slice J3 u.f3.length j3) (.slice J4 u.f4.length j4))
        go_wp2_with fail
        refine bodyPost_ret (results_c1 rfl _ _ c 26 _ (0, 0) _ rfl HF.out.bc Tryd.underlying26 rfl (by kernel_rfl)) rfl ?_
        exact PutQ.of HE4.out (HOT.out.setb HCB.out _ _ _ _ _) (by have := HW.out.lo.2; have := HCB.out; omega) HF.out.bel
end Go.Proofs.YtfnofjcdaghniaaDoor.Tree
/- where a name stands, as a plain law. Own work. -/
namespace Go.Proofs.YtfnofjcdaghniaaDoor.Tree
set_option linter.unusedVariables false
set_option linter.unusedSimpArgs false
open Go.RowKit Go.Proofs.YtfnofjcdaghniaaDoor.PL Go.Proofs.YtfnofjcdaghniaaDoor.Mt Go.Proofs.YtfnofjcdaghniaaDoorW.PrintWords Go.Proofs.YtfnofjcdaghniaaDoorW.PrintLast Go.Proofs.YtfnofjcdaghniaaDoorW.PrintMore
theorem pos_at {l : List ByteArray} {n : ByteArray} (hs : Srt l) {i : Nat} (hi : i < l.length) (he : l[i] = n) : posS l n = i :=
  posS_unique (Nat.le_of_lt hi) (fun j hj hji => by rw [← he]; exact hs.lt hji hi) (fun _ => by rw [he]; exact ltB_irrefl n)
theorem has_at {l : List ByteArray} {n : ByteArray} (hs : Srt l) {i : Nat} (hi : i < l.length) (he : l[i] = n) : hasS l n = true := by
  unfold hasS
  rw [pos_at hs hi he, List.getElem?_eq_getElem hi, he]
  simp
theorem has_not {l : List ByteArray} {n : ByteArray} (h : ∀ j (hj : j < l.length), l[j] ≠ n) : hasS l n = false := by
  unfold hasS
  refine decide_eq_false (fun e => ?_)
  obtain ⟨h1, h2⟩ := List.getElem?_eq_some_iff.1 e
  exact h _ h1 h2
end Go.Proofs.YtfnofjcdaghniaaDoor.Tree
/- the names of a place, by a scan. Own work. -/
namespace Go.Proofs.YtfnofjcdaghniaaDoor.Tree
set_option linter.unusedVariables false
set_option linter.unusedSimpArgs false
open Go.RowKit Go.Proofs.YtfnofjcdaghniaaDoor.PL Go.Proofs.YtfnofjcdaghniaaDoor.Mt Go.Proofs.YtfnofjcdaghniaaDoorW.PrintWords Go.Proofs.YtfnofjcdaghniaaDoorW.PrintLast Go.Proofs.YtfnofjcdaghniaaDoorW.PrintMore
def scanL : List UInt8 → List UInt8 → List (List UInt8)
  | [], acc => [acc]
  | c :: r, acc => if c = 47 then acc :: scanL r [] else scanL r (acc ++ [c])
/-- the first piece, and the rest -/
def cutL : List UInt8 → List UInt8 × Option (List UInt8)
  | [] => ([], none)
  | c :: r => if c = 47 then ([], some r) else (c :: (cutL r).1, (cutL r).2)
theorem scan_cut : ∀ (L acc : List UInt8), scanL L acc = match (cutL L).2 with | none => [acc ++ (cutL L).1] | some r => (acc ++ (cutL L).1) :: scanL r [] := by
  intro L
  induction L with
  | nil => intro acc; simp [scanL, cutL]
  | cons c r ih =>
    intro acc
    rw [scanL, cutL]
    by_cases h : c = 47
    · rw [if_pos h, if_pos h]; simp
    · rw [if_neg h, if_neg h, ih (acc ++ [c])]
      cases h2 : (cutL r).2 with
      | none => simp
      | some q => simp
theorem cut_none : ∀ {L : List UInt8}, Lib.indexByte L 47 = -1 → (cutL L).2 = none ∧ (cutL L).1 = L := by
  intro L
  induction L with
  | nil => intro _; exact ⟨rfl, rfl⟩
  | cons c r ih =>
    intro h
    have h0 := Lib.indexByte_none h 0
    have hc : c ≠ 47 := fun e => h0 (by simp [e])
    have hr : Lib.indexByte r 47 = -1 := by
      rcases Classical.em (Lib.indexByte r 47 < 0) with h5 | h5
      · have := Lib.indexByte_ge r 47; omega
      · obtain ⟨o, ho⟩ : ∃ o : Nat, Lib.indexByte r 47 = o := ⟨(Lib.indexByte r 47).toNat, by omega⟩
        have := (Lib.indexByte_some ho).1
        exact absurd (by simpa using this) (Lib.indexByte_none h (o + 1))
    obtain ⟨i1, i2⟩ := ih hr
    rw [cutL, if_neg hc, i1, i2]
    exact ⟨rfl, rfl⟩
theorem cut_some : ∀ {L : List UInt8} {i : Nat}, Lib.indexByte L 47 = i → (cutL L).1 = L.take i ∧ (cutL L).2 = some (L.drop (i + 1)) := by
  intro L
  induction L with
  | nil => intro i h; have := (Lib.indexByte_some h).1; simp at this
  | cons c r ih =>
    intro i h
    obtain ⟨h1, h2⟩ := Lib.indexByte_some h
    cases i with
    | zero =>
      have hc : c = 47 := by simpa using h1
      rw [cutL, if_pos hc]
      exact ⟨rfl, rfl⟩
    | succ i =>
      have hc : c ≠ 47 := fun e => h2 0 (by omega) (by simp [e])
      have hr : Lib.indexByte r 47 = i := by
        rcases Classical.em (Lib.indexByte r 47 < 0) with h5 | h5
        · have h6 : Lib.indexByte r 47 = -1 := by have := Lib.indexByte_ge r 47; omega
          exact absurd (by simpa using h1) (Lib.indexByte_none h6 i)
        · obtain ⟨o, ho⟩ : ∃ o : Nat, Lib.indexByte r 47 = o := ⟨(Lib.indexByte r 47).toNat, by omega⟩
          obtain ⟨g1, g2⟩ := Lib.indexByte_some ho
          have e : o = i := by
            rcases Nat.lt_trichotomy o i with h7 | h7 | h7
            · exact absurd (by simpa using g1) (h2 (o + 1) (by omega))
            · exact h7
            · exact absurd (by simpa using h1) (g2 i h7)
          rw [ho, e]
      obtain ⟨i1, i2⟩ := ih hr
      rw [cutL, if_neg hc, i1, i2]
      exact ⟨rfl, rfl⟩
theorem split_scan : ∀ (k : Nat) (s : ByteArray), Lib.countB s slash = k → (Lib.splitB slash 0 k s).map (fun b => b.data.toList) = scanL s.data.toList [] := by
  intro k
  induction k with
  | zero =>
    intro s h
    rcases Lib.indexB_cases s slash with h1 | ⟨i, h1, h2⟩
    · rw [Lib.splitB_miss _ _ _ _ h1, scan_cut]
      have h3 : Lib.indexByte s.data.toList 47 = -1 := by rw [← Lib.index_one]; exact h1
      obtain ⟨i1, i2⟩ := cut_none h3
      rw [i1, i2]; rfl
    · have := Lib.countB_hit s slash i (by decide) h1; omega
  | succ k ih =>
    intro s h
    rcases Lib.indexB_cases s slash with h1 | ⟨i, h1, h2⟩
    · have := Lib.countB_miss s slash h1; omega
    · have hc := Lib.countB_hit s slash i (by decide) h1
      rw [Lib.splitB_hit _ _ _ _ i h1, List.map_cons, ih _ (by omega), scan_cut s.data.toList []]
      have h3 : Lib.indexByte s.data.toList 47 = i := by rw [← Lib.index_one]; exact h1
      obtain ⟨i1, i2⟩ := cut_some h3
      rw [i1, i2]
      have hs1 : slash.size = 1 := rfl
      have e1 : (s.extract 0 (i + 0)).data.toList = s.data.toList.take i := by simp
      have e2 : (s.extract (i + slash.size) s.size).data.toList = s.data.toList.drop (i + 1) := by
        rw [hs1]
        simp only [ByteArray.data_extract, Array.toList_extract]
        rw [List.extract_eq_take_drop, List.take_of_length_le]
        rw [List.length_drop, Array.length_toList]
        show s.size - (i + 1) ≤ _
        omega
      rw [e1, e2]; rfl
end Go.Proofs.YtfnofjcdaghniaaDoor.Tree
/- put and at, as plain laws. Own work. -/
namespace Go.Proofs.YtfnofjcdaghniaaDoor.Tree
set_option linter.unusedVariables false
set_option linter.unusedSimpArgs false
open Go.RowKit Go.Proofs.YtfnofjcdaghniaaDoor.PL Go.Proofs.YtfnofjcdaghniaaDoor.Mt Go.Proofs.YtfnofjcdaghniaaDoorW.PrintWords Go.Proofs.YtfnofjcdaghniaaDoorW.PrintLast Go.Proofs.YtfnofjcdaghniaaDoorW.PrintMore
theorem pos_lt {l : List ByteArray} {n : ByteArray} {j : Nat} (hj : j < l.length) (h : j < posS l n) : ltB l[j] n = true := by
  have h1 : l[j] ∈ l.takeWhile (fun s => ltB s n) := by
    have h2 : (l.takeWhile (fun s => ltB s n)) <+: l := List.takeWhile_prefix _
    have h3 : j < (l.takeWhile (fun s => ltB s n)).length := h
    have h4 := h2.getElem h3
    rw [← h4]
    exact List.getElem_mem h3
  exact List.all_eq_true.1 (List.all_takeWhile (p := fun s => ltB s n) (l := l)) _ h1
theorem pos_not {l : List ByteArray} {n : ByteArray} (h : posS l n < l.length) : ltB l[posS l n] n = false := by
  induction l with
  | nil => simp at h
  | cons a l ih =>
    cases ha : ltB a n with
    | false =>
      have e : posS (a :: l) n = 0 := by unfold posS; rw [List.takeWhile_cons, if_neg (by rw [ha]; simp)]; rfl
      simp only [e]
      exact ha
    | true =>
      have e : posS (a :: l) n = posS l n + 1 := by unfold posS; rw [List.takeWhile_cons, if_pos ha]; rfl
      have h2 : posS l n < l.length := by rw [e, List.length_cons] at h; omega
      simp only [e, List.getElem_cons_succ]
      exact ih h2
theorem above {l : List ByteArray} {n : ByteArray} (hs : Srt l) (hh : hasS l n = false) {j : Nat} (hj : j < l.length) (h : posS l n ≤ j) : ltB n l[j] = true := by
  have hp : posS l n < l.length := by omega
  have h1 := pos_not hp
  have h2 : l[posS l n] ≠ n := fun e => by
    have : hasS l n = true := by unfold hasS; rw [List.getElem?_eq_getElem hp, e]; simp
    rw [hh] at this
    cases this
  have h3 : ltB n l[posS l n] = true := by
    cases h4 : ltB n l[posS l n] with
    | true => rfl
    | false => exact absurd (ltB_tri h1 h4) h2
  rcases Nat.eq_or_lt_of_le h with h5 | h5
  · simp only [← h5]; exact h3
  · exact ltB_trans h3 (hs.lt h5 hj)
theorem ins_srt {l : List ByteArray} {n : ByteArray} (hs : Srt l) (hh : hasS l n = false) : Srt (l.take (posS l n) ++ n :: l.drop (posS l n)) := by
  have hd : ∀ y ∈ l.drop (posS l n), ltB n y = true := by
    intro y hy
    obtain ⟨j, hj, rfl⟩ := List.getElem_of_mem hy
    rw [List.getElem_drop]
    exact above hs hh _ (by omega)
  have ht : ∀ y ∈ l.take (posS l n), ltB y n = true := by
    intro y hy
    obtain ⟨j, hj, rfl⟩ := List.getElem_of_mem hy
    rw [List.getElem_take]
    rw [List.length_take] at hj
    exact pos_lt _ (by omega)
  refine List.pairwise_append.2 ⟨hs.sublist (List.take_sublist _ _), List.pairwise_cons.2 ⟨hd, hs.sublist (List.drop_sublist _ _)⟩, fun x hx y hy => ?_⟩
  rcases List.mem_cons.1 hy with rfl | hy
  · exact ht x hx
  · exact ltB_trans (ht x hx) (hd y hy)
theorem has_mem {l : List ByteArray} {b : ByteArray} (hs : Srt l) : hasS l b = true ↔ b ∈ l := by
  constructor
  · intro h
    unfold hasS at h
    exact List.mem_of_getElem? (of_decide_eq_true h)
  · intro h
    obtain ⟨j, hj, e⟩ := List.getElem_of_mem h
    exact has_at hs hj e
theorem has_get {l : List ByteArray} {b : ByteArray} (h : hasS l b = true) : ∃ h9 : posS l b < l.length, l[posS l b] = b := by
  unfold hasS at h
  exact List.getElem?_eq_some_iff.1 (of_decide_eq_true h)
/-- a name beside the new one -/
theorem ins_other {l : List ByteArray} {a b : ByteArray} (hs : Srt l) (hh : hasS l a = false) (hne : b ≠ a) :
    hasS (l.take (posS l a) ++ a :: l.drop (posS l a)) b = hasS l b ∧ (hasS l b = true → posS (l.take (posS l a) ++ a :: l.drop (posS l a)) b = if posS l b < posS l a then posS l b else posS l b + 1) := by
  have hS := ins_srt hs hh
  have hle := posS_le l a
  cases hb : hasS l b with
  | false =>
    refine ⟨?_, fun h => by cases h⟩
    cases h9 : hasS (l.take (posS l a) ++ a :: l.drop (posS l a)) b with
    | false => rfl
    | true =>
      have h8 := (has_mem hS).1 h9
      rcases List.mem_append.1 h8 with h7 | h7
      · rw [(has_mem hs).2 (List.mem_of_mem_take h7)] at hb; cases hb
      · rcases List.mem_cons.1 h7 with h6 | h6
        · exact absurd h6 hne
        · rw [(has_mem hs).2 (List.mem_of_mem_drop h6)] at hb; cases hb
  | true =>
    obtain ⟨hj, he⟩ := has_get hb
    have hlen : (l.take (posS l a)).length = posS l a := by rw [List.length_take]; omega
    have hget : (l.take (posS l a) ++ a :: l.drop (posS l a))[if posS l b < posS l a then posS l b else posS l b + 1]? = some b := by
      by_cases h5 : posS l b < posS l a
      · rw [if_pos h5, List.getElem?_append_left (by omega), List.getElem?_take, if_pos h5, List.getElem?_eq_getElem hj, he]
      · rw [if_neg h5, List.getElem?_append_right (by omega), hlen, show posS l b + 1 - posS l a = (posS l b - posS l a) + 1 by omega, List.getElem?_cons_succ, List.getElem?_drop, show posS l a + (posS l b - posS l a) = posS l b by omega, List.getElem?_eq_getElem hj, he]
    obtain ⟨h3, h4⟩ := List.getElem?_eq_some_iff.1 hget
    exact ⟨has_at hS h3 h4, fun _ => pos_at hS h3 h4⟩
theorem ins_same {l : List ByteArray} {a : ByteArray} (hs : Srt l) (hh : hasS l a = false) : hasS (l.take (posS l a) ++ a :: l.drop (posS l a)) a = true ∧ posS (l.take (posS l a) ++ a :: l.drop (posS l a)) a = posS l a := by
  have hS := ins_srt hs hh
  have hle := posS_le l a
  have hlen : (l.take (posS l a)).length = posS l a := by rw [List.length_take]; omega
  have hget : (l.take (posS l a) ++ a :: l.drop (posS l a))[posS l a]? = some a := by
    rw [List.getElem?_append_right (by omega), hlen, Nat.sub_self]; rfl
  obtain ⟨h3, h4⟩ := List.getElem?_eq_some_iff.1 hget
  exact ⟨has_at hS h3 h4, pos_at hS h3 h4⟩
theorem take_min_cons {a b : ByteArray} {l m : List ByteArray} : (a :: l).take (min (a :: l).length (b :: m).length) ≠ (b :: m).take (min (a :: l).length (b :: m).length) ↔ a ≠ b ∨ l.take (min l.length m.length) ≠ m.take (min l.length m.length) := by
  rw [List.length_cons, List.length_cons, Nat.add_min_add_right, List.take_succ_cons, List.take_succ_cons]
  constructor
  · intro h
    by_cases hab : a = b
    · right; intro e; exact h (by rw [hab, e])
    · exact .inl hab
  · rintro (h | h) e
    · exact h (List.cons.inj e).1
    · exact h (List.cons.inj e).2
/-- what stands at another place is as it was -/
theorem at_else : ∀ (l m : List ByteArray) (N : Nat) (t x r : S26), Okt N t → putS l t x = (r, 0) → l.take (min l.length m.length) ≠ m.take (min l.length m.length) → atS m r = atS m t := by
  intro l
  induction l with
  | nil => intro m N t x r hO hp hne; simp at hne
  | cons a l ih =>
    intro m N t x r hO hp hne
    cases m with
    | nil => simp at hne
    | cons b m =>
      rw [take_min_cons] at hne
      obtain ⟨hs, -⟩ := OktS hO
      have hL := OktL hO
      have h2 : t.f0 = 2 := by
        by_cases h : t.f0 = 2
        · exact h
        · rw [putS, if_pos h] at hp
          have := (Prod.mk.inj hp).2
          simp at this
      cases hh : hasS t.f3 a with
      | true =>
        obtain ⟨ha1, ha2⟩ := has_get hh
        obtain ⟨⟨r1, k⟩, hr⟩ : ∃ q, putS l (t.f4.getD (posS t.f3 a) dir0) x = q := ⟨_, rfl⟩
        have hk : k = 0 := by
          by_cases hk : k = 0
          · exact hk
          · rw [putS_err_t h2 hh rfl hr hk] at hp; exact absurd (Prod.mk.inj hp).2 hk
        subst hk
        rw [putS_ok_t h2 hh rfl hr] at hp
        have he := (Prod.mk.inj hp).1
        subst he
        rw [atS, atS]
        cases hb : hasS t.f3 b with
        | false => rw [if_neg (by simp), if_neg (by simp)]
        | true =>
          rw [if_pos rfl, if_pos rfl]
          obtain ⟨hb1, hb2⟩ := has_get hb
          show atS m ((t.f4.set (posS t.f3 a) r1).getD (posS t.f3 b) dir0) = _
          by_cases hpp : posS t.f3 a = posS t.f3 b
          · have hab : a = b := by rw [← ha2, ← hb2]; simp only [hpp]
            have hin : posS t.f3 b < t.f4.length := by omega
            rw [hpp, List.getD_eq_getElem?_getD, List.getElem?_set_self hin, Option.getD_some]
            rw [hpp] at hr
            have hmem : t.f4.getD (posS t.f3 b) dir0 ∈ t.f4 := by rw [List.getD_eq_getElem?_getD, List.getElem?_eq_getElem hin]; exact List.getElem_mem hin
            exact ih m N _ x r1 (Okt_kid hO hmem) hr (by rcases hne with h | h; exact absurd hab h; exact h)
          · rw [List.getD_eq_getElem?_getD, List.getElem?_set_ne hpp, ← List.getD_eq_getElem?_getD]
      | false =>
        obtain ⟨⟨r1, k⟩, hr⟩ : ∃ q, putS l dir0 x = q := ⟨_, rfl⟩
        have hk : k = 0 := by
          by_cases hk : k = 0
          · exact hk
          · rw [putS_err_f h2 hh hr hk] at hp; exact absurd (Prod.mk.inj hp).2 hk
        subst hk
        rw [putS_ok_f h2 hh hr] at hp
        have he := (Prod.mk.inj hp).1
        subst he
        have hle := posS_le t.f3 a
        have hlen : (t.f4.take (posS t.f3 a)).length = posS t.f3 a := by rw [List.length_take]; omega
        rw [atS, atS]
        by_cases hab : b = a
        · subst hab
          obtain ⟨s1, s2⟩ := ins_same hs hh
          rw [if_pos s1, if_neg (by rw [hh]; simp)]
          show atS m ((t.f4.take (posS t.f3 b) ++ r1 :: t.f4.drop (posS t.f3 b)).getD (posS (t.f3.take (posS t.f3 b) ++ b :: t.f3.drop (posS t.f3 b)) b) dir0) = _
          rw [s2, List.getD_eq_getElem?_getD, List.getElem?_append_right (by omega), hlen, Nat.sub_self]
          show atS m r1 = (z0, 7)
          have h9 : l.take (min l.length m.length) ≠ m.take (min l.length m.length) := by rcases hne with h | h; exact absurd rfl h; exact h
          rw [ih m 1 dir0 x r1 Okt_dir0 hr h9]
          cases m with
          | nil => simp at h9
          | cons c m => rw [atS, if_neg (by simp [hasS, dir0])]
        · obtain ⟨o1, o2⟩ := ins_other hs hh hab
          show (if hasS (t.f3.take (posS t.f3 a) ++ a :: t.f3.drop (posS t.f3 a)) b = true then atS m ((t.f4.take (posS t.f3 a) ++ r1 :: t.f4.drop (posS t.f3 a)).getD (posS (t.f3.take (posS t.f3 a) ++ a :: t.f3.drop (posS t.f3 a)) b) dir0) else (z0, 7)) = _
          rw [o1]
          cases hb : hasS t.f3 b with
          | false => rw [if_neg (by simp), if_neg (by simp)]
          | true =>
            rw [if_pos rfl, if_pos rfl, o2 hb]
            congr 1
            rw [List.getD_eq_getElem?_getD, List.getD_eq_getElem?_getD]
            congr 1
            by_cases h5 : posS t.f3 b < posS t.f3 a
            · rw [if_pos h5, List.getElem?_append_left (by omega), List.getElem?_take, if_pos h5]
            · rw [if_neg h5, List.getElem?_append_right (by omega), hlen, show posS t.f3 b + 1 - posS t.f3 a = (posS t.f3 b - posS t.f3 a) + 1 by omega, List.getElem?_cons_succ, List.getElem?_drop, show posS t.f3 a + (posS t.f3 b - posS t.f3 a) = posS t.f3 b by omega]
theorem PutS_inv {N M : Nat} {t x r : S26} {p : ByteArray} (h : PutS N M t p x = (r, 0)) :
    (chk N t 1 0).1 = 0 ∧ (chk M x 1 0).1 = 0 ∧ (partsS p).all isE = true ∧ putS (partsS p) t x = (r, 0) ∧ (chk (N + M + (partsS p).length + 1) r 1 0).1 = 0 := by
  unfold PutS at h
  by_cases h1 : (chk N t 1 0).1 = 0
  · rw [if_neg (by simpa using h1)] at h
    by_cases h2 : (chk M x 1 0).1 = 0
    · rw [if_neg (by simpa using h2)] at h
      cases h3 : (partsS p).all isE with
      | false => rw [if_pos h3] at h; have := (Prod.mk.inj h).2; simp at this
      | true =>
        rw [if_neg (by rw [h3]; simp)] at h
        obtain ⟨⟨r1, k⟩, hr⟩ : ∃ q, putS (partsS p) t x = q := ⟨_, rfl⟩
        rw [hr] at h ⊢
        simp only at h
        by_cases hk : k = 0
        · subst hk
          rw [if_neg (by simp)] at h
          by_cases h5 : (chk (N + M + (partsS p).length + 1) r1 1 0).1 = 0
          · rw [if_neg (by simpa using h5)] at h
            have he := (Prod.mk.inj h).1
            subst he
            exact ⟨h1, h2, rfl, rfl, h5⟩
          · rw [if_pos h5] at h; exact absurd (Prod.mk.inj h).2 h5
        · rw [if_pos hk] at h; exact absurd (Prod.mk.inj h).2 hk
    · rw [if_pos h2] at h; exact absurd (Prod.mk.inj h).2 h2
  · rw [if_pos h1] at h; exact absurd (Prod.mk.inj h).2 h1
theorem AtS_else {N M : Nat} {t x r : S26} {p o : ByteArray} (hG : GT N t) (h : PutS N M t p x = (r, 0)) (hne : (partsS p).take (min (partsS p).length (partsS o).length) ≠ (partsS o).take (min (partsS p).length (partsS o).length)) :
    AtS (N + M + (partsS p).length + 1) r o = AtS N t o := by
  obtain ⟨h1, h2, h3, h4, h5⟩ := PutS_inv h
  unfold AtS
  rw [h1, h5, if_neg (show ¬ ((0 : Int) ≠ 0) by simp), if_neg (show ¬ ((0 : Int) ≠ 0) by simp), at_else (partsS p) (partsS o) N t x r (chk_okt N t 1 0 hG (by omega) h1) h4 hne]
end Go.Proofs.YtfnofjcdaghniaaDoor.Tree
/- two trees in a row. Own work. -/
namespace Go.Proofs.YtfnofjcdaghniaaDoor.Tree
set_option linter.unusedVariables false
set_option linter.unusedSimpArgs false
open Go.RowKit Go.Proofs.YtfnofjcdaghniaaDoor.PL Go.Proofs.YtfnofjcdaghniaaDoor.Mt Go.Proofs.YtfnofjcdaghniaaDoorW.PrintWords Go.Proofs.YtfnofjcdaghniaaDoorW.PrintLast Go.Proofs.YtfnofjcdaghniaaDoorW.PrintMore
theorem two_C {w : World} {g : Nat} {t u : S26} {A2 : Option Addr} {c2 : Nat} {A3 : Option Addr} {c3 : Nat} {A4 : Option Addr} {c4 : Nat} {B2 : Option Addr} {d2 : Nat} {B3 : Option Addr} {d3 : Nat} {B4 : Option Addr} {d4 : Nat}
    (hb : w.heap[g]? = some (.cells (cs5 t A2 c2 A3 c3 A4 c4 ++ cs5 u B2 d2 B3 d3 B4 d4).toArray 26 (0, 0))) (h : TR w t A2 c2 A3 c3 A4 c4) (h2 : TR w u B2 d2 B3 d3 B4 d4) : k26.C w (some ⟨g, 0, none⟩) 2 [t, u] := by
  have add : ∀ k : Nat, (⟨g, 0, none⟩ : Addr).add k = ⟨g, k, none⟩ := fun k => by
    cases k with
    | zero => rfl
    | succ k => simp [Addr.add]
  refine ⟨rfl, by decide, fun _ => ⟨_, rfl, fun j p hp => ?_⟩⟩
  match j, hp with
  | 0, hp =>
    simp only [List.getElem?_cons_zero, Option.some.injEq] at hp
    subst hp
    refine ⟨cs5 t A2 c2 A3 c3 A4 c4, rfl, h.K, fun i v hi => ?_⟩
    have hi5 : i < 5 := (List.getElem?_eq_some_iff.1 hi).1
    show w.cell? ((⟨g, 0, none⟩ : Addr).add (0 * 5 + i)) = some v
    rw [add, blk_cell hb, List.getElem?_toArray, List.getElem?_append_left (by show _ < 5; omega), show 0 * 5 + i = i by omega]
    exact hi
  | 1, hp =>
    simp only [List.getElem?_cons_succ, List.getElem?_cons_zero, Option.some.injEq] at hp
    subst hp
    refine ⟨cs5 u B2 d2 B3 d3 B4 d4, rfl, h2.K, fun i v hi => ?_⟩
    show w.cell? ((⟨g, 0, none⟩ : Addr).add (1 * 5 + i)) = some v
    rw [add, blk_cell hb, List.getElem?_toArray, List.getElem?_append_right (by show 5 ≤ _; omega), show 1 * 5 + i - (cs5 t A2 c2 A3 c3 A4 c4).length = i from by show 1 * 5 + i - 5 = i; omega]
    exact hi
  | (j + 2), hp => simp at hp
/-- boxes of one's own -/
structure BX (w wr : World) (L : List (Nat × Array Value)) : Prop where
  bel : Below w.heap.size w wr
  is : ∀ x ∈ L, w.heap.size ≤ x.1 ∧ wr.heap[x.1]? = some (.cells x.2 26 (0, 0))
theorem BX.nil {w wr : World} (h : Below w.heap.size w wr) : BX w wr [] := ⟨h, fun x hx => by simp at hx⟩
theorem BX.step {w wr w2 : World} {L : List (Nat × Array Value)} (h : BX w wr L) (hb : Below wr.heap.size wr w2) : BX w w2 L :=
  ⟨below_then h.bel h.bel.size hb, fun x hx => ⟨(h.is x hx).1, (hb.block _ (blk_lt (h.is x hx).2)).trans (h.is x hx).2⟩⟩
theorem BX.new {w wr : World} {L : List (Nat × Array Value)} (h : BX w wr L) (hl : w.heap.size ≤ wr.heap.size) (cs : Array Value) : BX w (wr.alloc (.cells cs 26)) ((wr.heap.size, cs) :: L) := by
  have hs := h.step (below_alloc (Below.refl _ wr) (.cells cs 26))
  refine ⟨hs.bel, fun x hx => ?_⟩
  rcases List.mem_cons.1 hx with rfl | hx
  · exact ⟨hl, heap_alloc_new wr _⟩
  · exact hs.is x hx
theorem BX.g0 {w wr : World} {a : Nat} {cs : Array Value} {L : List (Nat × Array Value)} (h : BX w wr ((a, cs) :: L)) : wr.heap[a]? = some (.cells cs 26 (0, 0)) := (h.is (a, cs) (List.mem_cons_self ..)).2
theorem BX.g1 {w wr : World} {a : Nat} {cs : Array Value} {x : Nat × Array Value} {L : List (Nat × Array Value)} (h : BX w wr (x :: (a, cs) :: L)) : wr.heap[a]? = some (.cells cs 26 (0, 0)) := (h.is (a, cs) (List.mem_cons_of_mem _ (List.mem_cons_self ..))).2
theorem BX.g2 {w wr : World} {a : Nat} {cs : Array Value} {x y : Nat × Array Value} {L : List (Nat × Array Value)} (h : BX w wr (x :: y :: (a, cs) :: L)) : wr.heap[a]? = some (.cells cs 26 (0, 0)) := (h.is (a, cs) (List.mem_cons_of_mem _ (List.mem_cons_of_mem _ (List.mem_cons_self ..)))).2
theorem atS_GT : ∀ (l : List ByteArray) (N : Nat) (t : S26), GT N t → Okt N t → ∃ L, GT L (atS l t).1 := by
  intro l
  induction l with
  | nil => intro N t h _; exact ⟨N, h⟩
  | cons a l ih =>
    intro N t h hO
    rw [atS]
    cases hh : hasS t.f3 a with
    | false => rw [if_neg (by simp)]; exact ⟨1, GT_z0⟩
    | true =>
      rw [if_pos rfl]
      obtain ⟨h1, -⟩ := has_get hh
      have hL := OktL hO
      have hin : posS t.f3 a < t.f4.length := by omega
      have hm : t.f4.getD (posS t.f3 a) dir0 ∈ t.f4 := by rw [List.getD_eq_getElem?_getD, List.getElem?_eq_getElem hin]; exact List.getElem_mem hin
      exact ih N _ (GT_kid h hm) (Okt_kid hO hm)
theorem AtS_GT {N : Nat} {t : S26} {p : ByteArray} (h : GT N t) : ∃ L, GT L (AtS N t p).1 := by
  unfold AtS
  by_cases h1 : (chk N t 1 0).1 = 0
  · rw [if_neg (by simpa using h1)]
    cases h3 : (partsS p).all isE with
    | false => exact ⟨1, GT_z0⟩
    | true => rw [if_neg (by simp)]; exact atS_GT _ N t h (chk_okt N t 1 0 h (by omega) h1)
  · rw [if_pos h1]; exact ⟨1, GT_z0⟩
theorem AW.enter2 (w : World) (t u : S26) (A2 : Option Addr) (c2 : Nat) (A3 : Option Addr) (c3 : Nat) (A4 : Option Addr) (c4 : Nat) (B2 : Option Addr) (d2 : Nat) (B3 : Option Addr) (d3 : Nat) (B4 : Option Addr) (d4 : Nat) :
    AW w ((w.alloc (bx t A2 c2 A3 c3 A4 c4)).alloc (bx u B2 d2 B3 d3 B4 d4)) w.heap.size (w.heap.size + 1) #[.int .i64 t.f0, .bool t.f1, .slice A2 t.f2.length c2, .slice A3 t.f3.length c3, .slice A4 t.f4.length c4] #[.int .i64 u.f0, .bool u.f1, .slice B2 u.f2.length d2, .slice B3 u.f3.length d3, .slice B4 u.f4.length d4] := by
  obtain ⟨w1, hw1⟩ : ∃ q, w.alloc (bx t A2 c2 A3 c3 A4 c4) = q := ⟨_, rfl⟩
  have h1 : Below w.heap.size w w1 := hw1 ▸ below_alloc (Below.refl _ w) _
  have z1 : w1.heap.size = w.heap.size + 1 := by rw [← hw1]; simp
  have k1 : w1.heap[w.heap.size]? = some (bx t A2 c2 A3 c3 A4 c4) := hw1 ▸ heap_alloc_new w _
  have k2 := heap_alloc_new w1 (bx u B2 d2 B3 d3 B4 d4)
  rw [z1] at k2
  rw [hw1]
  exact ⟨blk_alloc k1 _, k2, by omega, by omega, below_alloc h1 _⟩
end Go.Proofs.YtfnofjcdaghniaaDoor.Tree
/- what stands above a place that was put: plain laws. Own work. -/
namespace Go.Proofs.YtfnofjcdaghniaaDoor.Tree
set_option linter.unusedVariables false
set_option linter.unusedSimpArgs false
open Go.RowKit Go.Proofs.YtfnofjcdaghniaaDoor.PL Go.Proofs.YtfnofjcdaghniaaDoor.Mt Go.Proofs.YtfnofjcdaghniaaDoorW.PrintWords Go.Proofs.YtfnofjcdaghniaaDoorW.PrintLast Go.Proofs.YtfnofjcdaghniaaDoorW.PrintMore
theorem PutS_GT {N M : Nat} {t x r : S26} {p : ByteArray} (hG : GT N t) (hX : GT M x) (h : PutS N M t p x = (r, 0)) : GT (N + M + (partsS p).length + 1) r := by
  obtain ⟨h1, h2, h3, h4, h5⟩ := PutS_inv h
  have h6 := put_GT (partsS p) N N M (N + M + (partsS p).length + 1) t x hG (chk_okt N t 1 0 hG (by omega) h1) hX (fun n hn => isE_size (List.all_eq_true.1 h3 n hn)) (by omega)
  rw [h4] at h6
  exact h6
theorem at_above : ∀ (l : List ByteArray) (N : Nat) (t x r : S26), Okt N t → putS l t x = (r, 0) → ∀ m, m < l.length → ∃ y, atS (l.take m) r = (y, 0) ∧ y.f0 = 2 := by
  intro l
  induction l with
  | nil => intro N t x r hO hp m hm; simp at hm
  | cons a l ih =>
    intro N t x r hO hp m hm
    have h2 : t.f0 = 2 := by
      by_cases h : t.f0 = 2
      · exact h
      · rw [putS, if_pos h] at hp
        have := (Prod.mk.inj hp).2
        simp at this
    obtain ⟨hs, -⟩ := OktS hO
    have hL := OktL hO
    cases hh : hasS t.f3 a with
    | true =>
      obtain ⟨ha1, ha2⟩ := has_get hh
      obtain ⟨⟨r1, k⟩, hr⟩ : ∃ q, putS l (t.f4.getD (posS t.f3 a) dir0) x = q := ⟨_, rfl⟩
      have hk : k = 0 := by
        by_cases hk : k = 0
        · exact hk
        · rw [putS_err_t h2 hh rfl hr hk] at hp; exact absurd (Prod.mk.inj hp).2 hk
      subst hk
      rw [putS_ok_t h2 hh rfl hr] at hp
      have he := (Prod.mk.inj hp).1
      subst he
      cases m with
      | zero => exact ⟨_, rfl, h2⟩
      | succ m =>
        have hin : posS t.f3 a < t.f4.length := by omega
        have hmem : t.f4.getD (posS t.f3 a) dir0 ∈ t.f4 := by rw [List.getD_eq_getElem?_getD, List.getElem?_eq_getElem hin]; exact List.getElem_mem hin
        rw [List.take_succ_cons, atS, if_pos hh]
        show ∃ y, atS (l.take m) ((t.f4.set (posS t.f3 a) r1).getD (posS t.f3 a) dir0) = (y, 0) ∧ y.f0 = 2
        rw [List.getD_eq_getElem?_getD, List.getElem?_set_self hin, Option.getD_some]
        exact ih N _ x r1 (Okt_kid hO hmem) hr m (by simp at hm; omega)
    | false =>
      obtain ⟨⟨r1, k⟩, hr⟩ : ∃ q, putS l dir0 x = q := ⟨_, rfl⟩
      have hk : k = 0 := by
        by_cases hk : k = 0
        · exact hk
        · rw [putS_err_f h2 hh hr hk] at hp; exact absurd (Prod.mk.inj hp).2 hk
      subst hk
      rw [putS_ok_f h2 hh hr] at hp
      have he := (Prod.mk.inj hp).1
      subst he
      cases m with
      | zero => exact ⟨_, rfl, h2⟩
      | succ m =>
        have hle := posS_le t.f3 a
        have hlen : (t.f4.take (posS t.f3 a)).length = posS t.f3 a := by rw [List.length_take]; omega
        obtain ⟨s1, s2⟩ := ins_same hs hh
        rw [List.take_succ_cons, atS, if_pos s1]
        show ∃ y, atS (l.take m) ((t.f4.take (posS t.f3 a) ++ r1 :: t.f4.drop (posS t.f3 a)).getD (posS (t.f3.take (posS t.f3 a) ++ a :: t.f3.drop (posS t.f3 a)) a) dir0) = (y, 0) ∧ y.f0 = 2
        rw [s2, List.getD_eq_getElem?_getD, List.getElem?_append_right (by omega), hlen, Nat.sub_self]
        show ∃ y, atS (l.take m) r1 = (y, 0) ∧ y.f0 = 2
        exact ih 1 dir0 x r1 Okt_dir0 hr m (by simp at hm; omega)
theorem scanL_pos (L acc : List UInt8) : 0 < (scanL L acc).length := by
  cases L with
  | nil => simp [scanL]
  | cons c r =>
    rw [scanL]
    split
    · simp
    · induction r generalizing acc c with
      | nil => simp [scanL]
      | cons d r ih =>
        rw [scanL]
        split
        · simp
        · exact ih _ _ (by assumption)
theorem scan_take : ∀ (L acc : List UInt8) (j : Nat), L[j]? = some 47 → ∃ m, m < (scanL L acc).length ∧ scanL (L.take j) acc = (scanL L acc).take m := by
  intro L
  induction L with
  | nil => intro acc j h; simp at h
  | cons c r ih =>
    intro acc j h
    cases j with
    | zero =>
      have hc : c = 47 := by simpa using h
      refine ⟨1, ?_, ?_⟩
      · rw [scanL, if_pos hc, List.length_cons]; have := scanL_pos r []; omega
      · rw [scanL.eq_def (c :: r), List.take_zero]
        simp only
        rw [if_pos hc]; rfl
    | succ j =>
      have h1 : r[j]? = some 47 := by simpa using h
      rw [List.take_succ_cons]
      by_cases hc : c = 47
      · obtain ⟨m, hm, he⟩ := ih [] j h1
        refine ⟨m + 1, ?_, ?_⟩
        · rw [scanL, if_pos hc, List.length_cons]; omega
        · rw [scanL, if_pos hc, scanL, if_pos hc, List.take_succ_cons, he]
      · obtain ⟨m, hm, he⟩ := ih (acc ++ [c]) j h1
        refine ⟨m, ?_, ?_⟩
        · rw [scanL, if_neg hc]; exact hm
        · rw [scanL, if_neg hc, scanL, if_neg hc, he]
theorem parts_scan {s : ByteArray} (h : s.size ≠ 0) : (partsS s).map (fun b => b.data.toList) = scanL s.data.toList [] := by
  unfold partsS
  rw [if_neg h]
  exact split_scan _ s rfl
theorem parts_prefix {s : ByteArray} {j : Nat} (hj : s.data.toList[j]? = some 47) : ∃ m, m < (partsS s).length ∧ partsS (s.extract 0 j) = (partsS s).take m := by
  have hlt : j < s.data.toList.length := (List.getElem?_eq_some_iff.1 hj).1
  rw [size_data] at hlt
  have h0 : s.size ≠ 0 := by omega
  have hp := parts_scan h0
  have hL : (partsS s).length = (scanL s.data.toList []).length := by rw [← hp, List.length_map]
  by_cases hz : j = 0
  · subst hz
    refine ⟨0, by rw [hL]; exact scanL_pos _ _, ?_⟩
    unfold partsS
    rw [if_pos (by simp)]; rfl
  · have e1 : (s.extract 0 j).data.toList = s.data.toList.take j := by simp
    have e2 : (s.extract 0 j).size ≠ 0 := by
      rw [← size_data, e1, List.length_take, size_data]; omega
    obtain ⟨m, hm, he⟩ := scan_take s.data.toList [] j hj
    refine ⟨m, by omega, ?_⟩
    have h3 := parts_scan e2
    rw [e1, he, ← hp, ← List.map_take] at h3
    exact List.map_inj_right (fun a b h => by
      cases a; cases b
      simp only at h
      exact congrArg ByteArray.mk (Array.toList_inj.1 h)) |>.1 h3
theorem AtS_above {N M : Nat} {t x r : S26} {p : ByteArray} {j : Nat} (hG : GT N t) (h : PutS N M t p x = (r, 0)) (hj : p.data.toList[j]? = some 47) :
    ∃ y, AtS (N + M + (partsS p).length + 1) r (p.extract 0 j) = (y, 0) ∧ y.f0 = 2 := by
  obtain ⟨h1, h2, h3, h4, h5⟩ := PutS_inv h
  obtain ⟨m, hm, he⟩ := parts_prefix hj
  obtain ⟨y, hy, hy2⟩ := at_above (partsS p) N t x r (chk_okt N t 1 0 hG (by omega) h1) h4 m hm
  refine ⟨y, ?_, hy2⟩
  unfold AtS
  rw [h5, if_neg (show ¬ ((0 : Int) ≠ 0) by simp), he, if_neg, hy]
  have : ((partsS p).take m).all isE = true := List.all_eq_true.2 (fun s hs => List.all_eq_true.1 h3 s (List.mem_of_mem_take hs))
  rw [this]; simp
end Go.Proofs.YtfnofjcdaghniaaDoor.Tree
/- tree.count, walked. Own work; printed by gen_cn.py. -/
namespace Go.Proofs.YtfnofjcdaghniaaDoor.Tree
set_option linter.unusedVariables false
set_option linter.unusedSimpArgs false
open Go.RowKit Go.Proofs.YtfnofjcdaghniaaDoor.PL Go.Proofs.YtfnofjcdaghniaaDoor.Mt Go.Proofs.YtfnofjcdaghniaaDoorW.PrintWords Go.Proofs.YtfnofjcdaghniaaDoorW.PrintLast Go.Proofs.YtfnofjcdaghniaaDoorW.PrintMore
/-- bytes -/
def cntB : Nat → S26 → Nat
  | 0, _ => 0
  | N + 1, t => (if t.f0 = 1 then t.f2.length else 0) + (t.f4.map (cntB N)).sum
theorem formE_big {t : S26} (h : formE t = 0) (h1 : t.f0 = 1) : t.f2.length ≤ 1048576 := by
  unfold formE at h
  rw [if_pos h1] at h
  split at h
  · cases h
  · split at h
    · cases h
    · omega
theorem cntB_le : ∀ (N d : Nat) (t : S26), CHK N d t → cntB N t ≤ cntN N t * 1048576 := by
  intro N
  induction N with
  | zero => intro d t h; exact h.1.elim
  | succ N ih =>
    intro d t h
    obtain ⟨k1, k2, k3, k4, k5⟩ := h.node
    rw [cntB, cntN]
    have h1 : (if t.f0 = 1 then t.f2.length else 0) ≤ 1048576 := by
      split
      · exact formE_big k1 (by assumption)
      · omega
    have key : ∀ l : List S26, (∀ u ∈ l, CHK N (d + 1) u) → (l.map (cntB N)).sum ≤ (l.map (cntN N)).sum * 1048576 := by
      intro l
      induction l with
      | nil => intro _; simp
      | cons a l ihl =>
        intro hl
        have h2 := ihl (fun u hu => hl u (List.mem_cons_of_mem _ hu))
        have h3 := ih (d + 1) a (hl a (List.mem_cons_self ..))
        simp only [List.map_cons, List.sum_cons]
        omega
    have h4 := key t.f4 k5
    omega
/-- two numbers that are counted up -/
structure C2 (w0 wr : World) (g h : Nat) (n b : Nat) : Prop where
  bg : wr.heap[g]? = some (.cells #[.int .i64 (n : Int)] 3 (0, 0))
  bh : wr.heap[h]? = some (.cells #[.int .i64 (b : Int)] 3 (0, 0))
  ne : g ≠ h
  lo : w0.heap.size ≤ g ∧ w0.heap.size ≤ h
  bel : Below w0.heap.size w0 wr
theorem C2.below {w0 wr w2 : World} {g h n b : Nat} (c : C2 w0 wr g h n b) (hb : Below wr.heap.size wr w2) : C2 w0 w2 g h n b :=
  ⟨(hb.block _ (blk_lt c.bg)).trans c.bg, (hb.block _ (blk_lt c.bh)).trans c.bh, c.ne, c.lo, below_then c.bel c.bel.size hb⟩
theorem C2.setg {w0 wr : World} {g h n b : Nat} (c : C2 w0 wr g h n b) (m : Nat) : C2 w0 (wr.setCell ⟨g, 0, none⟩ (.int .i64 (m : Int))) g h m b :=
  ⟨by simpa using blk_set c.bg 0 (.int .i64 (m : Int)), blk_far c.bh (fun e => c.ne e.symm) _, c.ne, c.lo, below_set c.bel c.lo.1⟩
theorem C2.seth {w0 wr : World} {g h n b : Nat} (c : C2 w0 wr g h n b) (m : Nat) : C2 w0 (wr.setCell ⟨h, 0, none⟩ (.int .i64 (m : Int))) g h n m :=
  ⟨blk_far c.bg c.ne _, by simpa using blk_set c.bh 0 (.int .i64 (m : Int)), c.ne, c.lo, below_set c.bel c.lo.2⟩
theorem keep_seth {w wr : World} {g h : Nat} (k : KeepBut w wr g (some h)) (v : Value) : KeepBut w (wr.setCell ⟨h, 0, none⟩ v) g (some h) := by
  exact ⟨by simpa [World.setCell] using k.1, fun i hi hg hh => (Below.heap_setCell wr ⟨h, 0, none⟩ v i (fun e => hh (by rw [e]))).trans (k.2 i hi hg hh)⟩
set_option maxRecDepth 20000 in
set_option maxHeartbeats 2000000 in
theorem count_leaf (w0 : World) (t : S26) (A2 : Option Addr) (c2 : Nat) (A3 : Option Addr) (c3 : Nat) (A4 : Option Addr) (c4 : Nat) (w : World) (g h n b : Nat) (h1 : t.f0 = 1) (hk : t.f4 = []) (hC : C2 w0 w g h n b) (hn : n < 65536) (hbn : b ≤ n * 1048576) (hl : t.f2.length ≤ 1048576) :
  Calls Tryd.prog 42 #[TV t A2 c2 A3 c3 A4 c4, .pointer (some ⟨g, 0, none⟩), .pointer (some ⟨h, 0, none⟩)] w fun e w' => e = .returned (.tuple #[]) ∧ C2 w0 w' g h (n + 1) (b + t.f2.length) ∧ KeepBut w w' g (some h) := by
  have hb1 := below_alloc (Below.refl w.heap.size w) (.cells #[.int .i64 t.f0, .bool t.f1, .slice A2 t.f2.length c2, .slice A3 t.f3.length c3, .slice A4 t.f4.length c4] 26)
  have HC1 := Aside0.mk (hC.below hb1)
  have HP1 := Aside0.mk (heap_alloc_new w (.cells #[.int .i64 t.f0, .bool t.f1, .slice A2 t.f2.length c2, .slice A3 t.f3.length c3, .slice A4 t.f4.length c4] 26))
  have HK1 : Aside0 (KeepBut w (w.alloc (.cells #[.int .i64 t.f0, .bool t.f1, .slice A2 t.f2.length c2, .slice A3 t.f3.length c3, .slice A4 t.f4.length c4] 26)) g (some h)) := ⟨KeepBut.of_below hb1 g _⟩
  have hpg : w.heap.size ≠ g := by have := blk_lt hC.bg; omega
  have hph : w.heap.size ≠ h := by have := blk_lt hC.bh; omega
  have HK4 : Aside0 (t.f4.length = 0) := ⟨by rw [hk]; rfl⟩
  have hf0 : (t.f0 == 1) = true := by simp [h1]
  have hbb : b ≤ 68719476736 := by omega
  clear hC hb1 h1 hk hbn
  go_enter Tryd.func42, Tryd.ntmps42
  go_upto_region 1 with fail
  generalize (w.alloc (.cells #[.int .i64 t.f0, .bool t.f1, .slice A2 t.f2.length c2, .slice A3 t.f3.length c3, .slice A4 t.f4.length c4] 26)) = wa at *
  obtain ⟨pp, hpp⟩ : ∃ q, w.heap.size = q := ⟨_, rfl⟩
  rw [hpp] at HP1 hpg hph ⊢
  have HPP := Aside0.mk hpp
  clear hpp
  have g0 : wa.cell? ⟨g, 0, none⟩ = some (.int .i64 (n : Int)) := (blk_cell HC1.out.bg 0).trans rfl
  have gf0 : wa.frozen? ⟨g, 0, none⟩ = false := blk_frozen HC1.out.bg 0
  go_upto_region 2 with fail
  obtain ⟨n1, hn1⟩ : ∃ q : Nat, q = n + 1 := ⟨_, rfl⟩
  have hv : ((n : Int) + 1) = (n1 : Int) := by omega
  rw [hv]
  have HN1 := Aside0.mk hn1
  clear hv g0 gf0 hn1
  have HC2 := Aside0.mk (HC1.out.setg n1)
  have HP2 := Aside0.mk (blk_far HP1.out (p := ⟨g, 0, none⟩) hpg (.int .i64 (n1 : Int)))
  have HK2 := Aside0.mk (HK1.out.set_ 0 (.int .i64 (n1 : Int)))
  clear HC1 HP1 HK1
  generalize wa.setCell ⟨g, 0, none⟩ (.int .i64 (n1 : Int)) = w2 at *
  obtain ⟨x0, x1, x2, x3, x4⟩ := cells5 HP2.out
  have g0 : w2.cell? ⟨h, 0, none⟩ = some (.int .i64 (b : Int)) := (blk_cell HC2.out.bh 0).trans rfl
  have gf0 : w2.frozen? ⟨h, 0, none⟩ = false := blk_frozen HC2.out.bh 0
  go_upto_region 3 with fail
  go_still_tail 8, (by kernel_rfl)
  change wpList _ _ _ _ _ w2.drew
  have hdr := below_drew (Below.refl w2.heap.size w2)
  have HC3 := Aside0.mk (HC2.out.below hdr)
  have HP3 := Aside0.mk ((hdr.block _ (blk_lt HP2.out)).trans HP2.out)
  have HK3 := Aside0.mk (HK2.out.trans (KeepBut.of_below hdr g (some h)) (.inl rfl))
  clear HC2 HP2 HK2 g0 gf0 hdr x0 x1 x2 x3 x4
  generalize w2.drew = w3 at *
  have g0 : w3.cell? ⟨h, 0, none⟩ = some (.int .i64 (b : Int)) := (blk_cell HC3.out.bh 0).trans rfl
  have gf0 : w3.frozen? ⟨h, 0, none⟩ = false := blk_frozen HC3.out.bh 0
  go_upto_region 4 with fail
  obtain ⟨b1, hb1⟩ : ∃ q : Nat, q = b + t.f2.length := ⟨_, rfl⟩
  have hv : ((b : Int) + (t.f2.length : Int)) = (b1 : Int) := by omega
  rw [hv]
  have HB1 := Aside0.mk hb1
  clear hv g0 gf0 hb1
  have HC4 := Aside0.mk (HC3.out.seth b1)
  have HP4 := Aside0.mk (blk_far HP3.out (p := ⟨h, 0, none⟩) hph (.int .i64 (b1 : Int)))
  have HK4' := Aside0.mk (keep_seth HK3.out (.int .i64 (b1 : Int)))
  clear HC3 HP3 HK3
  generalize w3.setCell ⟨h, 0, none⟩ (.int .i64 (b1 : Int)) = w4 at *
  obtain ⟨x0, x1, x2, x3, x4⟩ := cells5 HP4.out
  go_wp2_with fail
  go_loopw [27] (fun v wr => v = .int .i64 0 ∧ wr = w4) (fun _ _ => 0)
  case atStart => exact ⟨rfl, rfl⟩
  case round =>
    obtain ⟨rfl, rfl⟩ := hrel
    have hk4 := HK4.out
    go_wp2_with fail
    exact bodyPost_end (v := .tuple #[]) (by simp [results, Tryd.results42, go_sem]) rfl ⟨rfl, by rw [← HN1.out, ← HB1.out]; exact HC4.out, HK4'.out⟩
def CC (w0 : World) (N : Nat) : Prop := ∀ (t : S26) (A2 : Option Addr) (c2 : Nat) (A3 : Option Addr) (c3 : Nat) (A4 : Option Addr) (c4 : Nat) (w : World) (g h n b d : Nat), TR w0 t A2 c2 A3 c3 A4 c4 → CHK N d t → C2 w0 w g h n b → n + cntN N t ≤ 65536 → b ≤ n * 1048576 →
  Calls Tryd.prog 42 #[TV t A2 c2 A3 c3 A4 c4, .pointer (some ⟨g, 0, none⟩), .pointer (some ⟨h, 0, none⟩)] w fun e w' => e = .returned (.tuple #[]) ∧ C2 w0 w' g h (n + cntN N t) (b + cntB N t) ∧ KeepBut w w' g (some h)
set_option maxRecDepth 20000 in
set_option maxHeartbeats 2000000 in
theorem count_dir (w0 : World) (N d : Nat) (ih : CC w0 N) (t : S26) (A2 : Option Addr) (c2 : Nat) (A3 : Option Addr) (c3 : Nat) (A4 : Option Addr) (c4 : Nat) (w : World) (g h n b : Nat) (h1 : t.f0 ≠ 1) (ht : TR w0 t A2 c2 A3 c3 A4 c4) (hch : ∀ u ∈ t.f4, CHK N (d + 1) u) (hC : C2 w0 w g h n b) (hl : n + 1 + (t.f4.map (cntN N)).sum ≤ 65536) (hbn : b ≤ n * 1048576) (hl4 : t.f4.length ≤ 65536) :
  Calls Tryd.prog 42 #[TV t A2 c2 A3 c3 A4 c4, .pointer (some ⟨g, 0, none⟩), .pointer (some ⟨h, 0, none⟩)] w fun e w' => e = .returned (.tuple #[]) ∧ C2 w0 w' g h (n + 1 + (t.f4.map (cntN N)).sum) (b + (t.f4.map (cntB N)).sum) ∧ KeepBut w w' g (some h) := by
  have hb1 := below_alloc (Below.refl w.heap.size w) (.cells #[.int .i64 t.f0, .bool t.f1, .slice A2 t.f2.length c2, .slice A3 t.f3.length c3, .slice A4 t.f4.length c4] 26)
  have HC1 := Aside0.mk (hC.below hb1)
  have HP1 := Aside0.mk (heap_alloc_new w (.cells #[.int .i64 t.f0, .bool t.f1, .slice A2 t.f2.length c2, .slice A3 t.f3.length c3, .slice A4 t.f4.length c4] 26))
  have HK1 : Aside0 (KeepBut w (w.alloc (.cells #[.int .i64 t.f0, .bool t.f1, .slice A2 t.f2.length c2, .slice A3 t.f3.length c3, .slice A4 t.f4.length c4] 26)) g (some h)) := ⟨KeepBut.of_below hb1 g _⟩
  have hpg : w.heap.size ≠ g := by have := blk_lt hC.bg; omega
  have hph : w.heap.size ≠ h := by have := blk_lt hC.bh; omega
  have IH := Aside0.mk ih
  have HT := Aside0.mk ht
  have HCH := Aside0.mk hch
  have hnb : n < 65536 := by omega
  have HL := Aside0.mk hl
  have HBN := Aside0.mk hbn
  have hf0 : (t.f0 == 1) = false := by simp [h1]
  clear hC hb1 h1 ih ht hch hl hbn
  go_enter Tryd.func42, Tryd.ntmps42
  go_upto_region 1 with fail
  generalize (w.alloc (.cells #[.int .i64 t.f0, .bool t.f1, .slice A2 t.f2.length c2, .slice A3 t.f3.length c3, .slice A4 t.f4.length c4] 26)) = wa at *
  obtain ⟨pp, hpp⟩ : ∃ q, w.heap.size = q := ⟨_, rfl⟩
  rw [hpp] at HP1 hpg hph ⊢
  have HPP := Aside0.mk hpp
  clear hpp
  have g0 : wa.cell? ⟨g, 0, none⟩ = some (.int .i64 (n : Int)) := (blk_cell HC1.out.bg 0).trans rfl
  have gf0 : wa.frozen? ⟨g, 0, none⟩ = false := blk_frozen HC1.out.bg 0
  go_upto_region 2 with fail
  obtain ⟨n1, hn1⟩ : ∃ q : Nat, q = n + 1 := ⟨_, rfl⟩
  have hv : ((n : Int) + 1) = (n1 : Int) := by omega
  rw [hv]
  have HN1 := Aside0.mk hn1
  clear hv g0 gf0 hn1
  have HC2 := Aside0.mk (HC1.out.setg n1)
  have HP2 := Aside0.mk (blk_far HP1.out (p := ⟨g, 0, none⟩) hpg (.int .i64 (n1 : Int)))
  have HK2 := Aside0.mk (HK1.out.set_ 0 (.int .i64 (n1 : Int)))
  clear HC1 HP1 HK1
  generalize wa.setCell ⟨g, 0, none⟩ (.int .i64 (n1 : Int)) = w2 at *
  obtain ⟨x0, x1, x2, x3, x4⟩ := cells5 HP2.out
  go_wp2_with fail
  go_loopw [27] (fun v wr => ∃ (k m c : Nat), v = .int .i64 (k : Int) ∧ k ≤ t.f4.length ∧ Aside0 (n + 1 + (t.f4.map (cntN N)).sum = m + ((t.f4.drop k).map (cntN N)).sum) ∧ Aside0 (b + (t.f4.map (cntB N)).sum = c + ((t.f4.drop k).map (cntB N)).sum) ∧ Aside0 (c ≤ m * 1048576) ∧ Aside0 (C2 w0 wr g h m c) ∧ Aside0 (wr.heap[pp]? = some (.cells #[.int .i64 t.f0, .bool t.f1, .slice A2 t.f2.length c2, .slice A3 t.f3.length c3, .slice A4 t.f4.length c4] 26)) ∧ Aside0 (KeepBut w wr g (some h))) (fun v _ => t.f4.length - (intOf v).toNat)
  case atStart => exact ⟨0, n1, b, rfl, Nat.zero_le _, ⟨by rw [HN1.out]; rfl⟩, ⟨rfl⟩, ⟨by rw [HN1.out]; exact Nat.le_trans HBN.out (Nat.mul_le_mul_right _ (Nat.le_succ n))⟩, HC2, HP2, HK2⟩
  case round =>
    clear HC2 HP2 HK2 x0 x1 x2 x3 x4
    obtain ⟨k, m, c, rfl, hk, HE, HEB, HCM, HC, HP, HK⟩ := hrel
    by_cases hlt : k < t.f4.length
    · skip
      obtain ⟨ad, B2, d2, B3, d3, B4, d4, hA, e0, e1, e2, e3, e4, r1, r2, r3, r4, r5, r6⟩ := at_T26 HT.out.2.2.2.2.2 (k : Int) (by omega) (by omega)
      obtain ⟨u, hu⟩ : ∃ x, rd_T26 t.f4 (k : Int) = x := ⟨_, rfl⟩
      have hue : t.f4[k] = u := by rw [← hu, rdT hlt]
      rw [hu] at e0 e1 e2 e3 e4 r1 r2 r3 r4 r5 r6
      rw [Int.toNat_natCast] at e0 e1 e2 e3 e4
      have HCU : Aside0 (CHK N (d + 1) u) := ⟨hue ▸ HCH.out _ (List.getElem_mem hlt)⟩
      have HTR : Aside0 (TR w0 u B2 d2 B3 d3 B4 d4) := ⟨⟨r1, r2, r3, r4, r5, r6⟩⟩
      have HE2 : Aside0 (n + 1 + (t.f4.map (cntN N)).sum = m + cntN N u + ((t.f4.drop (k + 1)).map (cntN N)).sum) := ⟨by rw [HE.out, List.drop_eq_getElem_cons hlt, hue, List.map_cons, List.sum_cons]; omega⟩
      have HEB2 : Aside0 (b + (t.f4.map (cntB N)).sum = c + cntB N u + ((t.f4.drop (k + 1)).map (cntB N)).sum) := ⟨by rw [HEB.out, List.drop_eq_getElem_cons hlt, hue, List.map_cons, List.sum_cons]; omega⟩
      have HCM2 : Aside0 (c + cntB N u ≤ (m + cntN N u) * 1048576) := ⟨by have h1 := HCM.out; have h2 := cntB_le N (d + 1) u HCU.out; omega⟩
      have hal := below_alloc (Below.refl wr.heap.size wr) (.cells #[.int .i64 u.f0, .bool u.f1, .slice B2 u.f2.length d2, .slice B3 u.f3.length d3, .slice B4 u.f4.length d4] 26)
      have f0 := pw_cell_below HC.out.bel e0
      have f1 := pw_cell_below HC.out.bel e1
      have f2 := pw_cell_below HC.out.bel e2
      have f3 := pw_cell_below HC.out.bel e3
      have f4 := pw_cell_below HC.out.bel e4
      subst hA
      clear hue hu e0 e1 e2 e3 e4 r1 r2 r3 r4 r5 r6 HE HEB
      have HCb := Aside0.mk (HC.out.below hal)
      have HPb := Aside0.mk (blk_alloc HP.out (.cells #[.int .i64 u.f0, .bool u.f1, .slice B2 u.f2.length d2, .slice B3 u.f3.length d3, .slice B4 u.f4.length d4] 26))
      have HUb := Aside0.mk (heap_alloc_new wr (.cells #[.int .i64 u.f0, .bool u.f1, .slice B2 u.f2.length d2, .slice B3 u.f3.length d3, .slice B4 u.f4.length d4] 26))
      have HKb : Aside0 (KeepBut w (wr.alloc (.cells #[.int .i64 u.f0, .bool u.f1, .slice B2 u.f2.length d2, .slice B3 u.f3.length d3, .slice B4 u.f4.length d4] 26)) g (some h)) := ⟨HK.out.trans (KeepBut.of_below hal g _) (.inl rfl)⟩
      clear hal HC HP HK
      go_upto_region 7 with fail
      generalize (wr.alloc (.cells #[.int .i64 u.f0, .bool u.f1, .slice B2 u.f2.length d2, .slice B3 u.f3.length d3, .slice B4 u.f4.length d4] 26)) = wb at *
      generalize wr.heap.size = pb at *
      clear f0 f1 f2 f3 f4
      obtain ⟨x0, x1, x2, x3, x4⟩ := cells5 HUb.out
      go_wp2_with fail
      refine (IH.out u B2 d2 B3 d3 B4 d4 wb g h m c (d + 1) HTR.out HCU.out HCb.out (by have := HE2.out; have := HL.out; omega) HCM.out).mono ?_
      rintro e_ w7 ⟨rfl, hc7, hk7⟩
      have HP7 : Aside0 (w7.heap[pp]? = _) := ⟨(hk7.2 _ (blk_lt HPb.out) hpg (fun e => hph (Option.some.inj e))).trans HPb.out⟩
      have HC7 := Aside0.mk hc7
      have HK7 := Aside0.mk (HKb.out.trans hk7 (.inl rfl))
      clear hc7 hk7 HKb HPb HCb HUb x0 x1 x2 x3 x4
      go_wp2_with fail
      trace_state
      exact ⟨⟨k + 1, m + cntN N u, c + cntB N u, by go_num, by omega, HE2, HEB2, HCM2, HC7, HP7, HK7⟩, by simp [intOf]; omega⟩
    · have hkk : k = t.f4.length := by omega
      have h8 := HE.out
      have h9 := HEB.out
      rw [hkk, List.drop_length, List.map_nil, List.sum_nil, Nat.add_zero] at h8 h9
      have H8 := Aside0.mk h8
      have H9 := Aside0.mk h9
      clear h8 h9
      go_wp2_with fail
      exact bodyPost_end (v := .tuple #[]) (by simp [results, Tryd.results42, go_sem]) rfl ⟨rfl, by rw [H8.out, H9.out]; exact HC.out, HK.out⟩
theorem count_any (w0 : World) : ∀ N, CC w0 N := by
  intro N
  induction N with
  | zero =>
    intro t A2 c2 A3 c3 A4 c4 w g h n b d ht hc
    exact hc.1.elim
  | succ N ih =>
    intro t A2 c2 A3 c3 A4 c4 w g h n b d ht hc hC hl hbn
    obtain ⟨k1, k2, k3, k4, k5⟩ := hc.node
    rw [cntN] at hl ⊢
    rw [cntB]
    have hl4 : t.f4.length ≤ 65536 := by have := cnt_len N t.f4 hc.1.2.2.2.2.2; omega
    by_cases h1 : t.f0 = 1
    · have hk := (formE_file k1 h1).2
      rw [if_pos h1, hk]
      exact count_leaf w0 t A2 c2 A3 c3 A4 c4 w g h n b h1 hk hC (by omega) hbn (formE_big k1 h1)
    · rw [if_neg h1, ← Nat.add_assoc, Nat.zero_add]
      exact count_dir w0 N d ih t A2 c2 A3 c3 A4 c4 w g h n b h1 ht k5 hC (by omega) hbn hl4
theorem C2.start (wa : World) : C2 wa ((wa.alloc (.cells #[.int .i64 0] 3)).alloc (.cells #[.int .i64 0] 3)) wa.heap.size (wa.heap.size + 1) 0 0 := by
  obtain ⟨w1, hw1⟩ : ∃ q, wa.alloc (.cells #[.int .i64 0] 3) = q := ⟨_, rfl⟩
  have k1 : w1.heap[wa.heap.size]? = some (.cells #[.int .i64 0] 3 (0, 0)) := hw1 ▸ heap_alloc_new wa _
  have b1 : Below wa.heap.size wa w1 := hw1 ▸ below_alloc (Below.refl _ wa) _
  have z1 : w1.heap.size = wa.heap.size + 1 := by rw [← hw1]; simp
  have k2 := heap_alloc_new w1 (.cells #[.int .i64 0] 3)
  rw [z1] at k2
  rw [hw1]
  exact ⟨blk_alloc k1 _, k2, by omega, by omega, below_alloc b1 _⟩
/-- what Count tells -/
noncomputable def CountS (N : Nat) (t : S26) : Nat × Nat := if (chk N t 1 0).1 ≠ 0 then (0, 0) else (cntN N t, cntB N t)
set_option maxRecDepth 20000 in
set_option maxHeartbeats 2000000 in
theorem Count_any (N : Nat) (t : S26) (A2 : Option Addr) (c2 : Nat) (A3 : Option Addr) (c3 : Nat) (A4 : Option Addr) (c4 : Nat) (w : World) (ht : TR w t A2 c2 A3 c3 A4 c4) (hG : GT N t) :
    Calls Tryd.prog 25 #[TV t A2 c2 A3 c3 A4 c4] w fun e w' => e = .returned (.tuple #[.int .i64 ((CountS N t).1 : Int), .int .i64 ((CountS N t).2 : Int)]) ∧ Below w.heap.size w w' := by
  have HT := Aside0.mk ht
  have HG := Aside0.mk hG
  clear ht hG
  have HP := Aside0.mk (heap_alloc_new w (.cells #[.int .i64 t.f0, .bool t.f1, .slice A2 t.f2.length c2, .slice A3 t.f3.length c3, .slice A4 t.f4.length c4] 26))
  have hb1 := below_alloc (Below.refl w.heap.size w) (.cells #[.int .i64 t.f0, .bool t.f1, .slice A2 t.f2.length c2, .slice A3 t.f3.length c3, .slice A4 t.f4.length c4] 26)
  obtain ⟨wa, hwa⟩ : ∃ q, w.alloc (.cells #[.int .i64 t.f0, .bool t.f1, .slice A2 t.f2.length c2, .slice A3 t.f3.length c3, .slice A4 t.f4.length c4] 26) = q := ⟨_, rfl⟩
  rw [hwa] at HP hb1
  have hz1 : wa.heap.size = w.heap.size + 1 := by rw [← hwa]; simp
  have HC := Aside0.mk (C2.start wa)
  have HP := Aside0.mk (blk_alloc (blk_alloc HP.out (.cells #[.int .i64 0] 3)) (.cells #[.int .i64 0] 3))
  have HB := Aside0.mk (below_then hb1 hb1.size HC.out.bel)
  have HBA := Aside0.mk hb1
  clear hb1
  go_enter Tryd.func25, Tryd.ntmps25
  go_upto_region 1 with fail
  rw [hz1] at HC
  clear hwa hz1
  obtain ⟨pp, hpp⟩ : ∃ q, w.heap.size = q := ⟨_, rfl⟩
  rw [hpp] at HC HP ⊢
  have HPP := Aside0.mk hpp
  clear hpp
  obtain ⟨g1, hg1⟩ : ∃ q, pp + 1 = q := ⟨_, rfl⟩
  rw [hg1] at HC ⊢
  have HG1 := Aside0.mk hg1
  clear hg1
  obtain ⟨h1, hh1⟩ : ∃ q, g1 + 1 = q := ⟨_, rfl⟩
  rw [hh1] at HC ⊢
  clear hh1
  generalize (wa.alloc (.cells #[.int .i64 0] 3)).alloc (.cells #[.int .i64 0] 3) = w2 at *
  obtain ⟨x0, x1, x2, x3, x4⟩ := cells5 HP.out
  go_wp2_with fail
  clear x0 x1 x2 x3 x4
  refine (Check_any N t A2 c2 A3 c3 A4 c4 w2 (HT.out.below HB.out) HG.out).mono ?_
  rintro e w3 ⟨rfl, hb⟩
  have HC3 := Aside0.mk (HC.out.below hb)
  have HP3 := Aside0.mk ((hb.block _ (blk_lt HP.out)).trans HP.out)
  have HB3 := Aside0.mk (below_then HB.out HB.out.size hb)
  clear hb HC HP HB
  obtain ⟨k, hk⟩ : ∃ q, (chk N t 1 0).1 = q := ⟨_, rfl⟩
  rw [hk]
  have HK := Aside0.mk hk
  clear hk
  by_cases hz : k = 0
  rotate_left
  · skip
    have HE : Aside0 (CountS N t = (0, 0)) := ⟨by unfold CountS; rw [HK.out, if_pos hz]⟩
    have hkb : (k != 0) = true := by simpa using hz
    clear hz
    have r1 : w3.cell? ⟨g1, 0, none⟩ = some (.int .i64 0) := (blk_cell HC3.out.bg 0).trans rfl
    have r2 : w3.cell? ⟨h1, 0, none⟩ = some (.int .i64 0) := (blk_cell HC3.out.bh 0).trans rfl
    have r3 := blk_frozen HC3.out.bg 0
    have r4 := blk_frozen HC3.out.bh 0
    have hm : C2 wa (w3.setCell ⟨g1, 0, none⟩ (.int .i64 0)) g1 h1 0 0 := HC3.out.setg 0
    have r5 : (w3.setCell ⟨g1, 0, none⟩ (.int .i64 0)).cell? ⟨h1, 0, none⟩ = some (.int .i64 0) := (blk_cell hm.bh 0).trans rfl
    have r6 := blk_frozen hm.bh 0
    have HC4 : Aside0 (C2 wa ((w3.setCell ⟨g1, 0, none⟩ (.int .i64 0)).setCell ⟨h1, 0, none⟩ (.int .i64 0)) g1 h1 0 0) := ⟨hm.seth 0⟩
    clear hm
    go_wp2_with fail
    clear r1 r2 r3 r4 r5 r6
    generalize (w3.setCell ⟨g1, 0, none⟩ (.int .i64 0)).setCell ⟨h1, 0, none⟩ (.int .i64 0) = w9 at *
    have HC9 : Aside0 (C2 wa w9 g1 h1 0 0) := HC4
    have q1 : w9.cell? ⟨g1, 0, none⟩ = some (.int .i64 (0 : Int)) := (blk_cell HC9.out.bg 0).trans rfl
    have q2 : w9.cell? ⟨h1, 0, none⟩ = some (.int .i64 (0 : Int)) := (blk_cell HC9.out.bh 0).trans rfl
    refine bodyPost_ret (v := .tuple #[.int .i64 (0 : Int), .int .i64 (0 : Int)]) (by simp [results, Tryd.results25, go_sem, q1, q2]) rfl ⟨by rw [HE.out]; rfl, below_thenM HBA.out HBA.out.size HC9.out.bel⟩
  subst hz
  obtain ⟨x0, x1, x2, x3, x4⟩ := cells5 HP3.out
  go_wp2_with fail
  clear x0 x1 x2 x3 x4
  refine (count_any wa N t A2 c2 A3 c3 A4 c4 w3 g1 h1 0 0 1 (HT.out.below HBA.out) ⟨HG.out, 0, by omega, HK.out⟩ HC3.out (by have := (filesS_le HG.out HK.out).1; omega) (by omega)).mono ?_
  have HE : Aside0 (CountS N t = (cntN N t, cntB N t)) := ⟨by unfold CountS; rw [HK.out, if_neg (by simp)]⟩
  obtain ⟨nn, hnn⟩ : ∃ q, cntN N t = q := ⟨_, rfl⟩
  obtain ⟨bb, hbb⟩ : ∃ q, cntB N t = q := ⟨_, rfl⟩
  rw [hnn, hbb] at HE
  rw [hnn, hbb, Nat.zero_add, Nat.zero_add]
  rintro e_ w4 ⟨rfl, hc4, -⟩
  have HC4 := Aside0.mk hc4
  have r1 : w4.cell? ⟨g1, 0, none⟩ = some (.int .i64 (nn : Int)) := (blk_cell hc4.bg 0).trans rfl
  have r2 : w4.cell? ⟨h1, 0, none⟩ = some (.int .i64 (bb : Int)) := (blk_cell hc4.bh 0).trans rfl
  have r3 := blk_frozen hc4.bg 0
  have r4 := blk_frozen hc4.bh 0
  have hm := hc4.setg nn
  have r5 : (w4.setCell ⟨g1, 0, none⟩ (.int .i64 (nn : Int))).cell? ⟨h1, 0, none⟩ = some (.int .i64 (bb : Int)) := (blk_cell hm.bh 0).trans rfl
  have r6 := blk_frozen hm.bh 0
  clear hc4 hnn hbb hm
  have HC9 := Aside0.mk ((HC4.out.setg nn).seth bb)
  go_wp2_with fail
  clear r1 r2 r3 r4 r5 r6
  generalize (w4.setCell ⟨g1, 0, none⟩ (.int .i64 (nn : Int))).setCell ⟨h1, 0, none⟩ (.int .i64 (bb : Int)) = w9 at *
  have q1 : w9.cell? ⟨g1, 0, none⟩ = some (.int .i64 (nn : Int)) := (blk_cell HC9.out.bg 0).trans rfl
  have q2 : w9.cell? ⟨h1, 0, none⟩ = some (.int .i64 (bb : Int)) := (blk_cell HC9.out.bh 0).trans rfl
  refine bodyPost_ret (v := .tuple #[.int .i64 (nn : Int), .int .i64 (bb : Int)]) (by simp [results, Tryd.results25, go_sem, q1, q2]) rfl ⟨by rw [HE.out], below_thenM HBA.out HBA.out.size HC9.out.bel⟩
end Go.Proofs.YtfnofjcdaghniaaDoor.Tree
