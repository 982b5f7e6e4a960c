/- tree.At, walked. Own work; printed by gen_at.py. -/
import Derived.Test.YtfnofjcdaghniaaDoorKnJ
import Derived.Test.YtfnofjcdaghniaaDoorRfQ
import Derived.BigQuiet
namespace Go.Proofs.YtfnofjcdaghniaaDoor.Tree
set_option linter.unusedVariables false
set_option linter.unusedSimpArgs false
open Go.RowKit Go.Proofs.YtfnofjcdaghniaaDoor.PL Go.Proofs.YtfnofjcdaghniaaDoor.Mt Go.Proofs.YtfnofjcdaghniaaDoorW.PrintWords Go.Proofs.YtfnofjcdaghniaaDoorW.PrintLast Go.Proofs.YtfnofjcdaghniaaDoorW.PrintMore
/-- At behind the names, as a plain function -/
def atS : List ByteArray → S26 → S26 × Int
  | [], t => (t, 0)
  | n :: l, t => if hasS t.f3 n = true then atS l (t.f4.getD (posS t.f3 n) dir0) else (z0, 7)
noncomputable def AtS (N : Nat) (t : S26) (p : ByteArray) : S26 × Int :=
  if (chk N t 1 0).1 ≠ 0 then (z0, (chk N t 1 0).1) else if (partsS p).all isE = false then (z0, 9) else atS (partsS p) t
/-- two boxes -/
structure AW (w wr : World) (a c : Nat) (oa oc : Array Value) : Prop where
  ba : wr.heap[a]? = some (.cells oa 26 (0, 0))
  bc : wr.heap[c]? = some (.cells oc 26 (0, 0))
  ne : a ≠ c
  lo : w.heap.size ≤ a ∧ w.heap.size ≤ c
  bel : Below w.heap.size w wr
theorem AW.step {w wr w2 : World} {a c : Nat} {oa oc : Array Value} (h : AW w wr a c oa oc) (hb : Below wr.heap.size wr w2) : AW w w2 a c oa oc :=
  ⟨(hb.block _ (blk_lt h.ba)).trans h.ba, (hb.block _ (blk_lt h.bc)).trans h.bc, h.ne, h.lo, below_then h.bel h.bel.size hb⟩
theorem AW.setc {w wr : World} {a c : Nat} {oa : Array Value} {a0 b0 c0 d0 e0 : Value} (h : AW w wr a c oa #[a0, b0, c0, d0, e0]) (x0 x1 x2 x3 x4 : Value) :
    AW w (((((wr.setCell ⟨c, 0, none⟩ x0).setCell ⟨c, 1, none⟩ x1).setCell ⟨c, 2, none⟩ x2).setCell ⟨c, 3, none⟩ x3).setCell ⟨c, 4, none⟩ x4) a c oa #[x0, x1, x2, x3, x4] :=
  ⟨(box_far h.ne _ _ _ _ _).trans h.ba, box_same h.bc _ _ _ _ _, h.ne, h.lo, box_below h.bel h.lo.2 _ _ _ _ _⟩
theorem AW.seta {w wr : World} {a c : Nat} {oc : Array Value} {a0 b0 c0 d0 e0 : Value} (h : AW w wr a c #[a0, b0, c0, d0, e0] oc) (x0 x1 x2 x3 x4 : Value) :
    AW w (((((wr.setCell ⟨a, 0, none⟩ x0).setCell ⟨a, 1, none⟩ x1).setCell ⟨a, 2, none⟩ x2).setCell ⟨a, 3, none⟩ x3).setCell ⟨a, 4, none⟩ x4) a c #[x0, x1, x2, x3, x4] oc :=
  ⟨box_same h.ba _ _ _ _ _, (box_far h.ne.symm _ _ _ _ _).trans h.bc, h.ne, h.lo, box_below h.bel h.lo.1 _ _ _ _ _⟩
theorem AW.enter (w : World) (t : S26) (A2 : Option Addr) (c2 : Nat) (A3 : Option Addr) (c3 : Nat) (A4 : Option Addr) (c4 : Nat) :
    AW w ((w.alloc (bx t A2 c2 A3 c3 A4 c4)).alloc (.cells #[.int .i64 0, .bool false, .slice none 0 0, .slice none 0 0, .slice none 0 0] 26)) w.heap.size (w.heap.size + 1) #[.int .i64 t.f0, .bool t.f1, .slice A2 t.f2.length c2, .slice A3 t.f3.length c3, .slice A4 t.f4.length c4] #[.int .i64 0, .bool false, .slice none 0 0, .slice none 0 0, .slice none 0 0] := by
  obtain ⟨w1, hw1⟩ : ∃ q, w.alloc (bx t A2 c2 A3 c3 A4 c4) = q := ⟨_, rfl⟩
  have h1 : Below w.heap.size w w1 := hw1 ▸ below_alloc (Below.refl _ w) _
  have z1 : w1.heap.size = w.heap.size + 1 := by rw [← hw1]; simp
  have k1 : w1.heap[w.heap.size]? = some (bx t A2 c2 A3 c3 A4 c4) := hw1 ▸ heap_alloc_new w _
  have k2 := heap_alloc_new w1 (.cells #[.int .i64 0, .bool false, .slice none 0 0, .slice none 0 0, .slice none 0 0] 26)
  rw [z1] at k2
  rw [hw1]
  exact ⟨blk_alloc k1 _, k2, by omega, by omega, below_alloc h1 _⟩
theorem OktS {N : Nat} {t : S26} (h : Okt N t) : Srt t.f3 ∧ t.f3.length ≤ 1000000 := by
  cases N with
  | zero => exact h.elim
  | succ N => exact ⟨h.2.1, by have := h.2.2.1; omega⟩
theorem OktL {N : Nat} {t : S26} (h : Okt N t) : t.f3.length = t.f4.length := by
  cases N with
  | zero => exact h.elim
  | succ N => exact h.1
theorem Okt_mono : ∀ {N M : Nat} {t : S26}, Okt N t → N ≤ M → Okt M t := by
  intro N
  induction N with
  | zero => intro M t h; exact h.elim
  | succ N ih =>
    intro M t h hm
    cases M with
    | zero => omega
    | succ M => exact ⟨h.1, h.2.1, h.2.2.1, fun a ha => ih (h.2.2.2 a ha) (by omega)⟩
theorem Okt_kid {N : Nat} {t u : S26} (h : Okt N t) (hu : u ∈ t.f4) : Okt N u := by
  cases N with
  | zero => exact h.elim
  | succ N => exact Okt_mono (h.2.2.2 u hu) (by omega)
theorem GT_kid {N : Nat} {t u : S26} (h : GT N t) (hu : u ∈ t.f4) : GT N u := by
  cases N with
  | zero => exact h.elim
  | succ N => exact GT_mono (h.2.2.2.2.2 u hu) (by omega)
theorem C_set {w : World} {A : Option Addr} {l : List ByteArray} {p : Addr} {u : Value} (v : Value) (h : Kd.string.C w A l.length l) (hp : w.cell? p = some u) (hu : ∀ s, u ≠ .string s) : Kd.string.C (w.setCell p v) A l.length l := by
  obtain ⟨h1, h2, h3⟩ := h
  refine ⟨h1, h2, fun h0 => ?_⟩
  obtain ⟨ad, e, hc⟩ := h3 h0
  refine ⟨ad, e, fun j q hq => ?_⟩
  obtain ⟨c, g1, g2, g3⟩ := hc j q hq
  refine ⟨c, g1, g2, fun i x hx => ?_⟩
  have g4 := g3 i x hx
  rw [World.cell?_setCell_other _ _ _ _ (fun e => ?_)]
  · exact g4
  · rw [← e, hp] at g4
    have hcq : c = [.string q] := g2
    rw [hcq] at hx
    cases i with
    | zero => simp at hx; subst hx; exact hu q (Option.some.inj g4)
    | succ i => simp at hx
theorem CS_box {w : World} {A : Option Addr} {l : List ByteArray} {a : Nat} {k : Int} {b : Bool} {P2 : Option Addr} {n2 d2 : Nat} {P3 : Option Addr} {n3 d3 : Nat} {P4 : Option Addr} {n4 d4 : Nat} (h : Kd.string.C w A l.length l)
    (ha : w.heap[a]? = some (.cells #[.int .i64 k, .bool b, .slice P2 n2 d2, .slice P3 n3 d3, .slice P4 n4 d4] 26 (0, 0))) (v0 v1 v2 v3 v4 : Value) :
    Kd.string.C (((((w.setCell ⟨a, 0, none⟩ v0).setCell ⟨a, 1, none⟩ v1).setCell ⟨a, 2, none⟩ v2).setCell ⟨a, 3, none⟩ v3).setCell ⟨a, 4, none⟩ v4) A l.length l := by
  have b1 := blk_set ha 0 v0
  have b2 := blk_set b1 1 v1
  have b3 := blk_set b2 2 v2
  have b4 := blk_set b3 3 v3
  have s1 := C_set v0 h ((blk_cell ha 0).trans rfl) (fun s => by simp)
  have s2 := C_set v1 s1 ((blk_cell b1 1).trans rfl) (fun s => by simp)
  have s3 := C_set v2 s2 ((blk_cell b2 2).trans rfl) (fun s => by simp)
  have s4 := C_set v3 s3 ((blk_cell b3 3).trans rfl) (fun s => by simp)
  exact C_set v4 s4 ((blk_cell b4 4).trans rfl) (fun s => by simp)
set_option maxRecDepth 20000 in
set_option maxHeartbeats 8000000 in
theorem At_any (N : Nat) (t : S26) (A2 : Option Addr) (c2 : Nat) (A3 : Option Addr) (c3 : Nat) (A4 : Option Addr) (c4 : Nat) (place : ByteArray) (w : World)
    (ht : TR w t A2 c2 A3 c3 A4 c4) (hGt : GT N t) (hg : G0 w) (hp : place.size ≤ 999999) :
    Calls Tryd.prog 19 #[TV t A2 c2 A3 c3 A4 c4, .string place] w (PutQ w (AtS N t place)) := by
  have HT := Aside0.mk (And.intro ht (And.intro hg (show place.size ≤ 1000000 by omega)))
  have HG := Aside0.mk hGt
  clear ht hGt hg hp
  have HW := Aside0.mk (AW.enter w t A2 c2 A3 c3 A4 c4)
  go_enter Tryd.func19, Tryd.ntmps19
  go_upto_region 1 with fail
  generalize ((w.alloc (bx t A2 c2 A3 c3 A4 c4)).alloc (.cells #[.int .i64 0, .bool false, .slice none 0 0, .slice none 0 0, .slice none 0 0] 26)) = w3 at *
  obtain ⟨a, ha⟩ : ∃ q, w.heap.size = q := ⟨_, rfl⟩
  rw [ha] at HW ⊢
  clear ha
  obtain ⟨c, hc⟩ : ∃ q, a + 1 = q := ⟨_, rfl⟩
  rw [hc] at HW ⊢
  clear hc
  obtain ⟨x0, x1, x2, x3, x4⟩ := cells5 HW.out.ba
  go_wp2_with fail
  clear x0 x1 x2 x3 x4
  refine (Check_any N t A2 c2 A3 c3 A4 c4 w3 (HT.out.1.below HW.out.bel) HG.out).mono ?_
  rintro e w4 ⟨rfl, hb⟩
  have HW := Aside0.mk (HW.out.step hb)
  clear hb
  obtain ⟨k1, hk1⟩ : ∃ q, (chk N t 1 0).1 = q := ⟨_, rfl⟩
  rw [hk1]
  have HK1 := Aside0.mk hk1
  clear hk1
  by_cases hz : k1 = 0
  rotate_left
  · skip
    have hkb : (k1 != 0) = true := by simpa using hz
    have HP := Aside0.mk (show AtS N t place = (z0, k1) from by unfold AtS; rw [HK1.out, if_pos hz])
    obtain ⟨b0, b1, b2, b3, b4⟩ := cells5 HW.out.bc
    have f0 := blk_frozen HW.out.bc 0
    have f1 := blk_frozen HW.out.bc 1
    have f2 := blk_frozen HW.out.bc 2
    have f3 := blk_frozen HW.out.bc 3
    have f4 := blk_frozen HW.out.bc 4
    have HF := Aside0.mk (HW.out.setc (.int .i64 0) (.bool false) (.slice none 0 0) (.slice none 0 0) (.slice none 0 0))
    clear hz
    go_wp2_with fail
    refine bodyPost_ret (results_c1 rfl _ _ c 26 _ (0, 0) _ rfl HF.out.bc Tryd.underlying26 rfl (by kernel_rfl)) rfl ?_
    exact PutQ.zero HP.out HF.out.bel
  subst hz
  go_wp2_with fail
  refine (parts_any place w4 (HT.out.2.1.below HW.out.bel) HT.out.2.2).mono ?_
  rintro e w6 ⟨LA, lc, rfl, hlc, hC, hb⟩
  have HW := Aside0.mk (HW.out.step hb)
  clear hb
  obtain ⟨l, hl⟩ : ∃ q, partsS place = q := ⟨_, rfl⟩
  obtain ⟨ok, hok⟩ : ∃ q, l.all isE = q := ⟨_, rfl⟩
  have hll : l.length ≤ 1000001 := by rw [← hl]; exact partsS_len place HT.out.2.2
  rw [hl] at hlc hC ⊢
  rw [hok]
  have HL := Aside0.mk (And.intro hl hok)
  have HC := Aside0.mk (And.intro hC hlc)
  clear hl hok hC hlc
  cases ok with
  | false =>
    have HP := Aside0.mk (show AtS N t place = (z0, 9) from by unfold AtS; rw [HK1.out, if_neg (by simp), HL.out.1, if_pos HL.out.2])
    obtain ⟨b0, b1, b2, b3, b4⟩ := cells5 HW.out.bc
    have f0 := blk_frozen HW.out.bc 0
    have f1 := blk_frozen HW.out.bc 1
    have f2 := blk_frozen HW.out.bc 2
    have f3 := blk_frozen HW.out.bc 3
    have f4 := blk_frozen HW.out.bc 4
    have HF := Aside0.mk (HW.out.setc (.int .i64 0) (.bool false) (.slice none 0 0) (.slice none 0 0) (.slice none 0 0))
    go_wp2_with fail
    refine bodyPost_ret (results_c1 rfl _ _ c 26 _ (0, 0) _ rfl HF.out.bc Tryd.underlying26 rfl (by kernel_rfl)) rfl ?_
    exact PutQ.zero HP.out HF.out.bel
  | true =>
    have HAT : Aside0 (AtS N t place = atS l t) := ⟨by unfold AtS; rw [HK1.out, if_neg (by simp), HL.out.1, if_neg (by rw [HL.out.2]; simp)]⟩
    have HO : Aside0 (Okt N t) := ⟨chk_okt N t 1 0 HG.out (by omega) HK1.out⟩
    go_wp2_with fail
    go_loopw [29] (fun v wr => ∃ (k : Nat) (u : S26) (B2 : Option Addr) (d2 : Nat) (B3 : Option Addr) (d3 : Nat) (B4 : Option Addr) (d4 : Nat), v = .int .i64 (k : Int) ∧ k ≤ l.length ∧ Aside0 (atS l t = atS (l.drop k) u) ∧ Aside0 (TR w u B2 d2 B3 d3 B4 d4) ∧ Aside0 (GT N u) ∧ Aside0 (Okt N u) ∧ Aside0 (Below w6.heap.size w6 wr ∨ True) ∧ Aside0 (Kd.string.C wr LA l.length l) ∧ Aside0 (AW w wr a c #[.int .i64 u.f0, .bool u.f1, .slice B2 u.f2.length d2, .slice B3 u.f3.length d3, .slice B4 u.f4.length d4] #[.int .i64 0, .bool false, .slice none 0 0, .slice none 0 0, .slice none 0 0])) (fun v _ => l.length - (intOf v).toNat)
    case atStart => exact ⟨0, t, A2, c2, A3, c3, A4, c4, rfl, Nat.zero_le _, ⟨rfl⟩, ⟨HT.out.1⟩, HG, HO, ⟨.inr trivial⟩, ⟨HC.out.1⟩, HW⟩
    case round =>
      clear HW HO
      obtain ⟨k, u, B2, d2, B3, d3, B4, d4, rfl, hk, HE, HTU, HGU, HOU, -, HCL, HW⟩ := hrel
      by_cases hlt : k < l.length
      · skip
        obtain ⟨ad, hA, hcn⟩ := Kd.at_string HCL.out (k : Int) (by omega) (by omega)
        obtain ⟨nm, hnm⟩ : ∃ x, rdOf ByteArray.empty l (k : Int) = x := ⟨_, rfl⟩
        have hne : l[k] = nm := by rw [← hnm, rdB hlt]
        rw [hnm, Int.toNat_natCast] at hcn
        subst hA
        have HE2 : Aside0 (atS l t = atS (nm :: l.drop (k + 1)) u) := ⟨by rw [HE.out, List.drop_eq_getElem_cons hlt, hne]⟩
        clear hne hnm HE
        obtain ⟨x0, x1, x2, x3, x4⟩ := cells5 HW.out.ba
        go_wp2_with fail
        clear hcn x0 x1 x2 x3 x4
        refine (bs_any B3 d3 wr (OktS HOU.out).1 (OktS HOU.out).2 (Kd.C_below HTU.out.2.2.2.1 HW.out.bel) HTU.out.2.2.1).mono ?_
        rintro e w7 ⟨rfl, hd⟩
        obtain ⟨dn, rfl⟩ := hd
        have hdr := pw_below_drewN (Below.refl wr.heap.size wr) dn
        have HW := Aside0.mk (HW.out.step hdr)
        have HCL := Aside0.mk (Kd.C_below HCL.out hdr)
        clear hdr
        generalize wr.drewN dn = w8 at *
        obtain ⟨i, hi⟩ : ∃ q, posS u.f3 nm = q := ⟨_, rfl⟩
        obtain ⟨h, hh⟩ : ∃ q, hasS u.f3 nm = q := ⟨_, rfl⟩
        rw [hi, hh]
        have HI := Aside0.mk (And.intro hi hh)
        clear hi hh
        cases h with
        | false =>
          have HP := Aside0.mk (show AtS N t place = (z0, 7) from by rw [HAT.out, HE2.out, atS, if_neg (by rw [HI.out.2]; simp)])
          obtain ⟨b0, b1, b2, b3, b4⟩ := cells5 HW.out.bc
          have f0 := blk_frozen HW.out.bc 0
          have f1 := blk_frozen HW.out.bc 1
          have f2 := blk_frozen HW.out.bc 2
          have f3 := blk_frozen HW.out.bc 3
          have f4 := blk_frozen HW.out.bc 4
          have HF := Aside0.mk (HW.out.setc (.int .i64 0) (.bool false) (.slice none 0 0) (.slice none 0 0) (.slice none 0 0))
          go_wp2_with fail
          refine bodyPost_ret (results_c1 rfl _ _ c 26 _ (0, 0) _ rfl HF.out.bc Tryd.underlying26 rfl (by kernel_rfl)) rfl ?_
          exact PutQ.zero HP.out HF.out.bel
        | true =>
          have hil : i < u.f4.length := by
            have h1 := HI.out.1
            have h2 := HI.out.2
            have h3 := OktL HOU.out
            unfold hasS at h2
            rw [h1] at h2
            have := (List.getElem?_eq_some_iff.1 (of_decide_eq_true h2)).1
            omega
          obtain ⟨ad4, C2, q2, C3, q3, C4, q4, hA4, e0, e1, e2_, e3_, e4_, r1, r2, r3, r4, r5, r6⟩ := at_T26 HTU.out.2.2.2.2.2 (i : Int) (by omega) (by omega)
          obtain ⟨v, hv⟩ : ∃ x, rd_T26 u.f4 (i : Int) = x := ⟨_, rfl⟩
          have hve : u.f4[i] = v := by rw [← hv, rdT hil]
          rw [hv] at e0 e1 e2_ e3_ e4_ r1 r2 r3 r4 r5 r6
          rw [Int.toNat_natCast] at e0 e1 e2_ e3_ e4_
          have HTV : Aside0 (TR w v C2 q2 C3 q3 C4 q4) := ⟨⟨r1, r2, r3, r4, r5, r6⟩⟩
          have HV : Aside0 (u.f4.getD i dir0 = v) := ⟨by rw [List.getD_eq_getElem?_getD, List.getElem?_eq_getElem hil]; exact hve⟩
          have hvm : v ∈ u.f4 := hve ▸ List.getElem_mem hil
          have HGV : Aside0 (GT N v) := ⟨GT_kid HGU.out hvm⟩
          have HOV : Aside0 (Okt N v) := ⟨Okt_kid HOU.out hvm⟩
          have HE3 : Aside0 (atS l t = atS (l.drop (k + 1)) v) := ⟨by rw [HE2.out, atS, if_pos HI.out.2, HI.out.1, HV.out]⟩
          subst hA4
          have g0 := pw_cell_below HW.out.bel e0
          have g1 := pw_cell_below HW.out.bel e1
          have g2 := pw_cell_below HW.out.bel e2_
          have g3 := pw_cell_below HW.out.bel e3_
          have g4 := pw_cell_below HW.out.bel e4_
          clear hv hve hvm e0 e1 e2_ e3_ e4_ r1 r2 r3 r4 r5 r6 HE2
          obtain ⟨x0, x1, x2, x3, x4⟩ := cells5 HW.out.ba
          have f0 := blk_frozen HW.out.ba 0
          have f1 := blk_frozen HW.out.ba 1
          have f2 := blk_frozen HW.out.ba 2
          have f3 := blk_frozen HW.out.ba 3
          have f4 := blk_frozen HW.out.ba 4
          have hil4 : (i : Int) < (u.f4.length : Int) := by omega
          have HCN := Aside0.mk (CS_box HCL.out HW.out.ba (.int .i64 v.f0) (.bool v.f1) (.slice C2 v.f2.length q2) (.slice C3 v.f3.length q3) (.slice C4 v.f4.length q4))
          have HWN := Aside0.mk (HW.out.seta (.int .i64 v.f0) (.bool v.f1) (.slice C2 v.f2.length q2) (.slice C3 v.f3.length q3) (.slice C4 v.f4.length q4))
          go_wp2_with fail
          exact ⟨⟨k + 1, v, C2, q2, C3, q3, C4, q4, by go_num, by omega, HE3, HTV, HGV, HOV, ⟨.inr trivial⟩, HCN, HWN⟩, by simp [intOf]; omega⟩
      · skip
        have hkk : k = l.length := by omega
        have HE4 : Aside0 (AtS N t place = (u, 0)) := ⟨by rw [HAT.out, HE.out, hkk, List.drop_length, atS]⟩
        clear hkk HE
        obtain ⟨x0, x1, x2, x3, x4⟩ := cells5 HW.out.ba
        go_wp2_with fail
        clear x0 x1 x2 x3 x4
        refine (own_any N u B2 d2 B3 d3 B4 d4 wr (HTU.out.below HW.out.bel) HGU.out).mono ?_
        rintro e w10 ⟨J2, j2, J3, j3, J4, j4, rfl, ho, htr, hb⟩
        simp only [TV]
        have HCB : Aside0 (c < wr.heap.size) := ⟨blk_lt HW.out.bc⟩
        have HW := Aside0.mk (HW.out.step hb)
        have HOT := Aside0.mk ho
        clear hb ho htr
        obtain ⟨b0, b1, b2, b3, b4⟩ := cells5 HW.out.bc
        have f0 := blk_frozen HW.out.bc 0
        have f1 := blk_frozen HW.out.bc 1
        have f2 := blk_frozen HW.out.bc 2
        have f3 := blk_frozen HW.out.bc 3
        have f4 := blk_frozen HW.out.bc 4
        have HF := Aside0.mk (HW.out.setc (.int .i64 u.f0) (.bool u.f1) (.slice J2 u.f2.length j2) (.slice J3 u.f3.length j3) (.slice J4 u.f4.length j4))
        go_wp2_with fail
        refine bodyPost_ret (results_c1 rfl _ _ c 26 _ (0, 0) _ rfl HF.out.bc Tryd.underlying26 rfl (by kernel_rfl)) rfl ?_
        exact PutQ.of HE4.out (HOT.out.setb HCB.out _ _ _ _ _) (by have := HW.out.lo.2; have := HCB.out; omega) HF.out.bel
end Go.Proofs.YtfnofjcdaghniaaDoor.Tree
/- two trees in a row, two boxes. Own work. -/
namespace Go.Proofs.YtfnofjcdaghniaaDoor.Tree
set_option linter.unusedVariables false
set_option linter.unusedSimpArgs false
open Go.RowKit Go.Proofs.YtfnofjcdaghniaaDoor.PL Go.Proofs.YtfnofjcdaghniaaDoor.Mt Go.Proofs.YtfnofjcdaghniaaDoorW.PrintWords Go.Proofs.YtfnofjcdaghniaaDoorW.PrintLast Go.Proofs.YtfnofjcdaghniaaDoorW.PrintMore
theorem two_C {w : World} {g : Nat} {t u : S26} {A2 : Option Addr} {c2 : Nat} {A3 : Option Addr} {c3 : Nat} {A4 : Option Addr} {c4 : Nat} {B2 : Option Addr} {d2 : Nat} {B3 : Option Addr} {d3 : Nat} {B4 : Option Addr} {d4 : Nat}
    (hb : w.heap[g]? = some (.cells (cs5 t A2 c2 A3 c3 A4 c4 ++ cs5 u B2 d2 B3 d3 B4 d4).toArray 26 (0, 0))) (h : TR w t A2 c2 A3 c3 A4 c4) (h2 : TR w u B2 d2 B3 d3 B4 d4) : k26.C w (some ⟨g, 0, none⟩) 2 [t, u] := by
  have add : ∀ k : Nat, (⟨g, 0, none⟩ : Addr).add k = ⟨g, k, none⟩ := fun k => by
    cases k with
    | zero => rfl
    | succ k => simp [Addr.add]
  refine ⟨rfl, by decide, fun _ => ⟨_, rfl, fun j p hp => ?_⟩⟩
  match j, hp with
  | 0, hp =>
    simp only [List.getElem?_cons_zero, Option.some.injEq] at hp
    subst hp
    refine ⟨cs5 t A2 c2 A3 c3 A4 c4, rfl, h.K, fun i v hi => ?_⟩
    have hi5 : i < 5 := (List.getElem?_eq_some_iff.1 hi).1
    show w.cell? ((⟨g, 0, none⟩ : Addr).add (0 * 5 + i)) = some v
    rw [add, blk_cell hb, List.getElem?_toArray, List.getElem?_append_left (by show _ < 5; omega), show 0 * 5 + i = i by omega]
    exact hi
  | 1, hp =>
    simp only [List.getElem?_cons_succ, List.getElem?_cons_zero, Option.some.injEq] at hp
    subst hp
    refine ⟨cs5 u B2 d2 B3 d3 B4 d4, rfl, h2.K, fun i v hi => ?_⟩
    show w.cell? ((⟨g, 0, none⟩ : Addr).add (1 * 5 + i)) = some v
    rw [add, blk_cell hb, List.getElem?_toArray, List.getElem?_append_right (by show 5 ≤ _; omega), show 1 * 5 + i - (cs5 t A2 c2 A3 c3 A4 c4).length = i from by show 1 * 5 + i - 5 = i; omega]
    exact hi
  | (j + 2), hp => simp at hp
theorem AW.enter2 (w : World) (t u : S26) (A2 : Option Addr) (c2 : Nat) (A3 : Option Addr) (c3 : Nat) (A4 : Option Addr) (c4 : Nat) (B2 : Option Addr) (d2 : Nat) (B3 : Option Addr) (d3 : Nat) (B4 : Option Addr) (d4 : Nat) :
    AW w ((w.alloc (bx t A2 c2 A3 c3 A4 c4)).alloc (bx u B2 d2 B3 d3 B4 d4)) w.heap.size (w.heap.size + 1) #[.int .i64 t.f0, .bool t.f1, .slice A2 t.f2.length c2, .slice A3 t.f3.length c3, .slice A4 t.f4.length c4] #[.int .i64 u.f0, .bool u.f1, .slice B2 u.f2.length d2, .slice B3 u.f3.length d3, .slice B4 u.f4.length d4] := by
  obtain ⟨w1, hw1⟩ : ∃ q, w.alloc (bx t A2 c2 A3 c3 A4 c4) = q := ⟨_, rfl⟩
  have h1 : Below w.heap.size w w1 := hw1 ▸ below_alloc (Below.refl _ w) _
  have z1 : w1.heap.size = w.heap.size + 1 := by rw [← hw1]; simp
  have k1 : w1.heap[w.heap.size]? = some (bx t A2 c2 A3 c3 A4 c4) := hw1 ▸ heap_alloc_new w _
  have k2 := heap_alloc_new w1 (bx u B2 d2 B3 d3 B4 d4)
  rw [z1] at k2
  rw [hw1]
  exact ⟨blk_alloc k1 _, k2, by omega, by omega, below_alloc h1 _⟩
end Go.Proofs.YtfnofjcdaghniaaDoor.Tree
/- where a name stands, as a plain law. Own work. -/
namespace Go.Proofs.YtfnofjcdaghniaaDoor.Tree
set_option linter.unusedVariables false
set_option linter.unusedSimpArgs false
open Go.RowKit Go.Proofs.YtfnofjcdaghniaaDoor.PL Go.Proofs.YtfnofjcdaghniaaDoor.Mt Go.Proofs.YtfnofjcdaghniaaDoorW.PrintWords Go.Proofs.YtfnofjcdaghniaaDoorW.PrintLast Go.Proofs.YtfnofjcdaghniaaDoorW.PrintMore
theorem pos_at {l : List ByteArray} {n : ByteArray} (hs : Srt l) {i : Nat} (hi : i < l.length) (he : l[i] = n) : posS l n = i :=
  posS_unique (Nat.le_of_lt hi) (fun j hj hji => by rw [← he]; exact hs.lt hji hi) (fun _ => by rw [he]; exact ltB_irrefl n)
theorem has_at {l : List ByteArray} {n : ByteArray} (hs : Srt l) {i : Nat} (hi : i < l.length) (he : l[i] = n) : hasS l n = true := by
  unfold hasS
  rw [pos_at hs hi he, List.getElem?_eq_getElem hi, he]
  simp
theorem has_not {l : List ByteArray} {n : ByteArray} (h : ∀ j (hj : j < l.length), l[j] ≠ n) : hasS l n = false := by
  unfold hasS
  refine decide_eq_false (fun e => ?_)
  obtain ⟨h1, h2⟩ := List.getElem?_eq_some_iff.1 e
  exact h _ h1 h2
end Go.Proofs.YtfnofjcdaghniaaDoor.Tree
/- the names of a place, by a scan. Own work. -/
namespace Go.Proofs.YtfnofjcdaghniaaDoor.Tree
set_option linter.unusedVariables false
set_option linter.unusedSimpArgs false
open Go.RowKit Go.Proofs.YtfnofjcdaghniaaDoor.PL Go.Proofs.YtfnofjcdaghniaaDoor.Mt Go.Proofs.YtfnofjcdaghniaaDoorW.PrintWords Go.Proofs.YtfnofjcdaghniaaDoorW.PrintLast Go.Proofs.YtfnofjcdaghniaaDoorW.PrintMore
def scanL : List UInt8 → List UInt8 → List (List UInt8)
  | [], acc => [acc]
  | c :: r, acc => if c = 47 then acc :: scanL r [] else scanL r (acc ++ [c])
/-- the first piece, and the rest -/
def cutL : List UInt8 → List UInt8 × Option (List UInt8)
  | [] => ([], none)
  | c :: r => if c = 47 then ([], some r) else (c :: (cutL r).1, (cutL r).2)
theorem scan_cut : ∀ (L acc : List UInt8), scanL L acc = match (cutL L).2 with | none => [acc ++ (cutL L).1] | some r => (acc ++ (cutL L).1) :: scanL r [] := by
  intro L
  induction L with
  | nil => intro acc; simp [scanL, cutL]
  | cons c r ih =>
    intro acc
    rw [scanL, cutL]
    by_cases h : c = 47
    · rw [if_pos h, if_pos h]; simp
    · rw [if_neg h, if_neg h, ih (acc ++ [c])]
      cases h2 : (cutL r).2 with
      | none => simp
      | some q => simp
theorem cut_none : ∀ {L : List UInt8}, Lib.indexByte L 47 = -1 → (cutL L).2 = none ∧ (cutL L).1 = L := by
  intro L
  induction L with
  | nil => intro _; exact ⟨rfl, rfl⟩
  | cons c r ih =>
    intro h
    have h0 := Lib.indexByte_none h 0
    have hc : c ≠ 47 := fun e => h0 (by simp [e])
    have hr : Lib.indexByte r 47 = -1 := by
      rcases Classical.em (Lib.indexByte r 47 < 0) with h5 | h5
      · have := Lib.indexByte_ge r 47; omega
      · obtain ⟨o, ho⟩ : ∃ o : Nat, Lib.indexByte r 47 = o := ⟨(Lib.indexByte r 47).toNat, by omega⟩
        have := (Lib.indexByte_some ho).1
        exact absurd (by simpa using this) (Lib.indexByte_none h (o + 1))
    obtain ⟨i1, i2⟩ := ih hr
    rw [cutL, if_neg hc, i1, i2]
    exact ⟨rfl, rfl⟩
theorem cut_some : ∀ {L : List UInt8} {i : Nat}, Lib.indexByte L 47 = i → (cutL L).1 = L.take i ∧ (cutL L).2 = some (L.drop (i + 1)) := by
  intro L
  induction L with
  | nil => intro i h; have := (Lib.indexByte_some h).1; simp at this
  | cons c r ih =>
    intro i h
    obtain ⟨h1, h2⟩ := Lib.indexByte_some h
    cases i with
    | zero =>
      have hc : c = 47 := by simpa using h1
      rw [cutL, if_pos hc]
      exact ⟨rfl, rfl⟩
    | succ i =>
      have hc : c ≠ 47 := fun e => h2 0 (by omega) (by simp [e])
      have hr : Lib.indexByte r 47 = i := by
        rcases Classical.em (Lib.indexByte r 47 < 0) with h5 | h5
        · have h6 : Lib.indexByte r 47 = -1 := by have := Lib.indexByte_ge r 47; omega
          exact absurd (by simpa using h1) (Lib.indexByte_none h6 i)
        · obtain ⟨o, ho⟩ : ∃ o : Nat, Lib.indexByte r 47 = o := ⟨(Lib.indexByte r 47).toNat, by omega⟩
          obtain ⟨g1, g2⟩ := Lib.indexByte_some ho
          have e : o = i := by
            rcases Nat.lt_trichotomy o i with h7 | h7 | h7
            · exact absurd (by simpa using g1) (h2 (o + 1) (by omega))
            · exact h7
            · exact absurd (by simpa using h1) (g2 i h7)
          rw [ho, e]
      obtain ⟨i1, i2⟩ := ih hr
      rw [cutL, if_neg hc, i1, i2]
      exact ⟨rfl, rfl⟩
theorem split_scan : ∀ (k : Nat) (s : ByteArray), Lib.countB s slash = k → (Lib.splitB slash 0 k s).map (fun b => b.data.toList) = scanL s.data.toList [] := by
  intro k
  induction k with
  | zero =>
    intro s h
    rcases Lib.indexB_cases s slash with h1 | ⟨i, h1, h2⟩
    · rw [Lib.splitB_miss _ _ _ _ h1, scan_cut]
      have h3 : Lib.indexByte s.data.toList 47 = -1 := by rw [← Lib.index_one]; exact h1
      obtain ⟨i1, i2⟩ := cut_none h3
      rw [i1, i2]; rfl
    · have := Lib.countB_hit s slash i (by decide) h1; omega
  | succ k ih =>
    intro s h
    rcases Lib.indexB_cases s slash with h1 | ⟨i, h1, h2⟩
    · have := Lib.countB_miss s slash h1; omega
    · have hc := Lib.countB_hit s slash i (by decide) h1
      rw [Lib.splitB_hit _ _ _ _ i h1, List.map_cons, ih _ (by omega), scan_cut s.data.toList []]
      have h3 : Lib.indexByte s.data.toList 47 = i := by rw [← Lib.index_one]; exact h1
      obtain ⟨i1, i2⟩ := cut_some h3
      rw [i1, i2]
      have hs1 : slash.size = 1 := rfl
      have e1 : (s.extract 0 (i + 0)).data.toList = s.data.toList.take i := by simp
      have e2 : (s.extract (i + slash.size) s.size).data.toList = s.data.toList.drop (i + 1) := by
        rw [hs1]
        simp only [ByteArray.data_extract, Array.toList_extract]
        rw [List.extract_eq_take_drop, List.take_of_length_le]
        rw [List.length_drop, Array.length_toList]
        show s.size - (i + 1) ≤ _
        omega
      rw [e1, e2]; rfl
end Go.Proofs.YtfnofjcdaghniaaDoor.Tree
/- put and at, as plain laws. Own work. -/
namespace Go.Proofs.YtfnofjcdaghniaaDoor.Tree
set_option linter.unusedVariables false
set_option linter.unusedSimpArgs false
open Go.RowKit Go.Proofs.YtfnofjcdaghniaaDoor.PL Go.Proofs.YtfnofjcdaghniaaDoor.Mt Go.Proofs.YtfnofjcdaghniaaDoorW.PrintWords Go.Proofs.YtfnofjcdaghniaaDoorW.PrintLast Go.Proofs.YtfnofjcdaghniaaDoorW.PrintMore
theorem pos_lt {l : List ByteArray} {n : ByteArray} {j : Nat} (hj : j < l.length) (h : j < posS l n) : ltB l[j] n = true := by
  have h1 : l[j] ∈ l.takeWhile (fun s => ltB s n) := by
    have h2 : (l.takeWhile (fun s => ltB s n)) <+: l := List.takeWhile_prefix _
    have h3 : j < (l.takeWhile (fun s => ltB s n)).length := h
    have h4 := h2.getElem h3
    rw [← h4]
    exact List.getElem_mem h3
  exact List.all_eq_true.1 (List.all_takeWhile (p := fun s => ltB s n) (l := l)) _ h1
theorem pos_not {l : List ByteArray} {n : ByteArray} (h : posS l n < l.length) : ltB l[posS l n] n = false := by
  induction l with
  | nil => simp at h
  | cons a l ih =>
    cases ha : ltB a n with
    | false =>
      have e : posS (a :: l) n = 0 := by unfold posS; rw [List.takeWhile_cons, if_neg (by rw [ha]; simp)]; rfl
      simp only [e]
      exact ha
    | true =>
      have e : posS (a :: l) n = posS l n + 1 := by unfold posS; rw [List.takeWhile_cons, if_pos ha]; rfl
      have h2 : posS l n < l.length := by rw [e, List.length_cons] at h; omega
      simp only [e, List.getElem_cons_succ]
      exact ih h2
theorem above {l : List ByteArray} {n : ByteArray} (hs : Srt l) (hh : hasS l n = false) {j : Nat} (hj : j < l.length) (h : posS l n ≤ j) : ltB n l[j] = true := by
  have hp : posS l n < l.length := by omega
  have h1 := pos_not hp
  have h2 : l[posS l n] ≠ n := fun e => by
    have : hasS l n = true := by unfold hasS; rw [List.getElem?_eq_getElem hp, e]; simp
    rw [hh] at this
    cases this
  have h3 : ltB n l[posS l n] = true := by
    cases h4 : ltB n l[posS l n] with
    | true => rfl
    | false => exact absurd (ltB_tri h1 h4) h2
  rcases Nat.eq_or_lt_of_le h with h5 | h5
  · simp only [← h5]; exact h3
  · exact ltB_trans h3 (hs.lt h5 hj)
theorem ins_srt {l : List ByteArray} {n : ByteArray} (hs : Srt l) (hh : hasS l n = false) : Srt (l.take (posS l n) ++ n :: l.drop (posS l n)) := by
  have hd : ∀ y ∈ l.drop (posS l n), ltB n y = true := by
    intro y hy
    obtain ⟨j, hj, rfl⟩ := List.getElem_of_mem hy
    rw [List.getElem_drop]
    exact above hs hh _ (by omega)
  have ht : ∀ y ∈ l.take (posS l n), ltB y n = true := by
    intro y hy
    obtain ⟨j, hj, rfl⟩ := List.getElem_of_mem hy
    rw [List.getElem_take]
    rw [List.length_take] at hj
    exact pos_lt _ (by omega)
  refine List.pairwise_append.2 ⟨hs.sublist (List.take_sublist _ _), List.pairwise_cons.2 ⟨hd, hs.sublist (List.drop_sublist _ _)⟩, fun x hx y hy => ?_⟩
  rcases List.mem_cons.1 hy with rfl | hy
  · exact ht x hx
  · exact ltB_trans (ht x hx) (hd y hy)
theorem has_mem {l : List ByteArray} {b : ByteArray} (hs : Srt l) : hasS l b = true ↔ b ∈ l := by
  constructor
  · intro h
    unfold hasS at h
    exact List.mem_of_getElem? (of_decide_eq_true h)
  · intro h
    obtain ⟨j, hj, e⟩ := List.getElem_of_mem h
    exact has_at hs hj e
theorem has_get {l : List ByteArray} {b : ByteArray} (h : hasS l b = true) : ∃ h9 : posS l b < l.length, l[posS l b] = b := by
  unfold hasS at h
  exact List.getElem?_eq_some_iff.1 (of_decide_eq_true h)
/-- a name beside the new one -/
theorem ins_other {l : List ByteArray} {a b : ByteArray} (hs : Srt l) (hh : hasS l a = false) (hne : b ≠ a) :
    hasS (l.take (posS l a) ++ a :: l.drop (posS l a)) b = hasS l b ∧ (hasS l b = true → posS (l.take (posS l a) ++ a :: l.drop (posS l a)) b = if posS l b < posS l a then posS l b else posS l b + 1) := by
  have hS := ins_srt hs hh
  have hle := posS_le l a
  cases hb : hasS l b with
  | false =>
    refine ⟨?_, fun h => by cases h⟩
    cases h9 : hasS (l.take (posS l a) ++ a :: l.drop (posS l a)) b with
    | false => rfl
    | true =>
      have h8 := (has_mem hS).1 h9
      rcases List.mem_append.1 h8 with h7 | h7
      · rw [(has_mem hs).2 (List.mem_of_mem_take h7)] at hb; cases hb
      · rcases List.mem_cons.1 h7 with h6 | h6
        · exact absurd h6 hne
        · rw [(has_mem hs).2 (List.mem_of_mem_drop h6)] at hb; cases hb
  | true =>
    obtain ⟨hj, he⟩ := has_get hb
    have hlen : (l.take (posS l a)).length = posS l a := by rw [List.length_take]; omega
    have hget : (l.take (posS l a) ++ a :: l.drop (posS l a))[if posS l b < posS l a then posS l b else posS l b + 1]? = some b := by
      by_cases h5 : posS l b < posS l a
      · rw [if_pos h5, List.getElem?_append_left (by omega), List.getElem?_take, if_pos h5, List.getElem?_eq_getElem hj, he]
      · rw [if_neg h5, List.getElem?_append_right (by omega), hlen, show posS l b + 1 - posS l a = (posS l b - posS l a) + 1 by omega, List.getElem?_cons_succ, List.getElem?_drop, show posS l a + (posS l b - posS l a) = posS l b by omega, List.getElem?_eq_getElem hj, he]
    obtain ⟨h3, h4⟩ := List.getElem?_eq_some_iff.1 hget
    exact ⟨has_at hS h3 h4, fun _ => pos_at hS h3 h4⟩
theorem ins_same {l : List ByteArray} {a : ByteArray} (hs : Srt l) (hh : hasS l a = false) : hasS (l.take (posS l a) ++ a :: l.drop (posS l a)) a = true ∧ posS (l.take (posS l a) ++ a :: l.drop (posS l a)) a = posS l a := by
  have hS := ins_srt hs hh
  have hle := posS_le l a
  have hlen : (l.take (posS l a)).length = posS l a := by rw [List.length_take]; omega
  have hget : (l.take (posS l a) ++ a :: l.drop (posS l a))[posS l a]? = some a := by
    rw [List.getElem?_append_right (by omega), hlen, Nat.sub_self]; rfl
  obtain ⟨h3, h4⟩ := List.getElem?_eq_some_iff.1 hget
  exact ⟨has_at hS h3 h4, pos_at hS h3 h4⟩
theorem take_min_cons {a b : ByteArray} {l m : List ByteArray} : (a :: l).take (min (a :: l).length (b :: m).length) ≠ (b :: m).take (min (a :: l).length (b :: m).length) ↔ a ≠ b ∨ l.take (min l.length m.length) ≠ m.take (min l.length m.length) := by
  rw [List.length_cons, List.length_cons, Nat.add_min_add_right, List.take_succ_cons, List.take_succ_cons]
  constructor
  · intro h
    by_cases hab : a = b
    · right; intro e; exact h (by rw [hab, e])
    · exact .inl hab
  · rintro (h | h) e
    · exact h (List.cons.inj e).1
    · exact h (List.cons.inj e).2
/-- what stands at another place is as it was -/
theorem at_else : ∀ (l m : List ByteArray) (N : Nat) (t x r : S26), Okt N t → putS l t x = (r, 0) → l.take (min l.length m.length) ≠ m.take (min l.length m.length) → atS m r = atS m t := by
  intro l
  induction l with
  | nil => intro m N t x r hO hp hne; simp at hne
  | cons a l ih =>
    intro m N t x r hO hp hne
    cases m with
    | nil => simp at hne
    | cons b m =>
      rw [take_min_cons] at hne
      obtain ⟨hs, -⟩ := OktS hO
      have hL := OktL hO
      have h2 : t.f0 = 2 := by
        by_cases h : t.f0 = 2
        · exact h
        · rw [putS, if_pos h] at hp
          have := (Prod.mk.inj hp).2
          simp at this
      cases hh : hasS t.f3 a with
      | true =>
        obtain ⟨ha1, ha2⟩ := has_get hh
        obtain ⟨⟨r1, k⟩, hr⟩ : ∃ q, putS l (t.f4.getD (posS t.f3 a) dir0) x = q := ⟨_, rfl⟩
        have hk : k = 0 := by
          by_cases hk : k = 0
          · exact hk
          · rw [putS_err_t h2 hh rfl hr hk] at hp; exact absurd (Prod.mk.inj hp).2 hk
        subst hk
        rw [putS_ok_t h2 hh rfl hr] at hp
        have he := (Prod.mk.inj hp).1
        subst he
        rw [atS, atS]
        cases hb : hasS t.f3 b with
        | false => rw [if_neg (by simp), if_neg (by simp)]
        | true =>
          rw [if_pos rfl, if_pos rfl]
          obtain ⟨hb1, hb2⟩ := has_get hb
          show atS m ((t.f4.set (posS t.f3 a) r1).getD (posS t.f3 b) dir0) = _
          by_cases hpp : posS t.f3 a = posS t.f3 b
          · have hab : a = b := by rw [← ha2, ← hb2]; simp only [hpp]
            have hin : posS t.f3 b < t.f4.length := by omega
            rw [hpp, List.getD_eq_getElem?_getD, List.getElem?_set_self hin, Option.getD_some]
            rw [hpp] at hr
            have hmem : t.f4.getD (posS t.f3 b) dir0 ∈ t.f4 := by rw [List.getD_eq_getElem?_getD, List.getElem?_eq_getElem hin]; exact List.getElem_mem hin
            exact ih m N _ x r1 (Okt_kid hO hmem) hr (by rcases hne with h | h; exact absurd hab h; exact h)
          · rw [List.getD_eq_getElem?_getD, List.getElem?_set_ne hpp, ← List.getD_eq_getElem?_getD]
      | false =>
        obtain ⟨⟨r1, k⟩, hr⟩ : ∃ q, putS l dir0 x = q := ⟨_, rfl⟩
        have hk : k = 0 := by
          by_cases hk : k = 0
          · exact hk
          · rw [putS_err_f h2 hh hr hk] at hp; exact absurd (Prod.mk.inj hp).2 hk
        subst hk
        rw [putS_ok_f h2 hh hr] at hp
        have he := (Prod.mk.inj hp).1
        subst he
        have hle := posS_le t.f3 a
        have hlen : (t.f4.take (posS t.f3 a)).length = posS t.f3 a := by rw [List.length_take]; omega
        rw [atS, atS]
        by_cases hab : b = a
        · subst hab
          obtain ⟨s1, s2⟩ := ins_same hs hh
          rw [if_pos s1, if_neg (by rw [hh]; simp)]
          show atS m ((t.f4.take (posS t.f3 b) ++ r1 :: t.f4.drop (posS t.f3 b)).getD (posS (t.f3.take (posS t.f3 b) ++ b :: t.f3.drop (posS t.f3 b)) b) dir0) = _
          rw [s2, List.getD_eq_getElem?_getD, List.getElem?_append_right (by omega), hlen, Nat.sub_self]
          show atS m r1 = (z0, 7)
          have h9 : l.take (min l.length m.length) ≠ m.take (min l.length m.length) := by rcases hne with h | h; exact absurd rfl h; exact h
          rw [ih m 1 dir0 x r1 Okt_dir0 hr h9]
          cases m with
          | nil => simp at h9
          | cons c m => rw [atS, if_neg (by simp [hasS, dir0])]
        · obtain ⟨o1, o2⟩ := ins_other hs hh hab
          show (if hasS (t.f3.take (posS t.f3 a) ++ a :: t.f3.drop (posS t.f3 a)) b = true then atS m ((t.f4.take (posS t.f3 a) ++ r1 :: t.f4.drop (posS t.f3 a)).getD (posS (t.f3.take (posS t.f3 a) ++ a :: t.f3.drop (posS t.f3 a)) b) dir0) else (z0, 7)) = _
          rw [o1]
          cases hb : hasS t.f3 b with
          | false => rw [if_neg (by simp), if_neg (by simp)]
          | true =>
            rw [if_pos rfl, if_pos rfl, o2 hb]
            congr 1
            rw [List.getD_eq_getElem?_getD, List.getD_eq_getElem?_getD]
            congr 1
            by_cases h5 : posS t.f3 b < posS t.f3 a
            · rw [if_pos h5, List.getElem?_append_left (by omega), List.getElem?_take, if_pos h5]
            · rw [if_neg h5, List.getElem?_append_right (by omega), hlen, show posS t.f3 b + 1 - posS t.f3 a = (posS t.f3 b - posS t.f3 a) + 1 by omega, List.getElem?_cons_succ, List.getElem?_drop, show posS t.f3 a + (posS t.f3 b - posS t.f3 a) = posS t.f3 b by omega]
theorem PutS_inv {N M : Nat} {t x r : S26} {p : ByteArray} (h : PutS N M t p x = (r, 0)) :
    (chk N t 1 0).1 = 0 ∧ (chk M x 1 0).1 = 0 ∧ (partsS p).all isE = true ∧ putS (partsS p) t x = (r, 0) ∧ (chk (N + M + (partsS p).length + 1) r 1 0).1 = 0 := by
  unfold PutS at h
  by_cases h1 : (chk N t 1 0).1 = 0
  · rw [if_neg (by simpa using h1)] at h
    by_cases h2 : (chk M x 1 0).1 = 0
    · rw [if_neg (by simpa using h2)] at h
      cases h3 : (partsS p).all isE with
      | false => rw [if_pos h3] at h; have := (Prod.mk.inj h).2; simp at this
      | true =>
        rw [if_neg (by rw [h3]; simp)] at h
        obtain ⟨⟨r1, k⟩, hr⟩ : ∃ q, putS (partsS p) t x = q := ⟨_, rfl⟩
        rw [hr] at h ⊢
        simp only at h
        by_cases hk : k = 0
        · subst hk
          rw [if_neg (by simp)] at h
          by_cases h5 : (chk (N + M + (partsS p).length + 1) r1 1 0).1 = 0
          · rw [if_neg (by simpa using h5)] at h
            have he := (Prod.mk.inj h).1
            subst he
            exact ⟨h1, h2, rfl, rfl, h5⟩
          · rw [if_pos h5] at h; exact absurd (Prod.mk.inj h).2 h5
        · rw [if_pos hk] at h; exact absurd (Prod.mk.inj h).2 hk
    · rw [if_pos h2] at h; exact absurd (Prod.mk.inj h).2 h2
  · rw [if_pos h1] at h; exact absurd (Prod.mk.inj h).2 h1
theorem AtS_else {N M : Nat} {t x r : S26} {p o : ByteArray} (hG : GT N t) (h : PutS N M t p x = (r, 0)) (hne : (partsS p).take (min (partsS p).length (partsS o).length) ≠ (partsS o).take (min (partsS p).length (partsS o).length)) :
    AtS (N + M + (partsS p).length + 1) r o = AtS N t o := by
  obtain ⟨h1, h2, h3, h4, h5⟩ := PutS_inv h
  unfold AtS
  rw [h1, h5, if_neg (show ¬ ((0 : Int) ≠ 0) by simp), if_neg (show ¬ ((0 : Int) ≠ 0) by simp), at_else (partsS p) (partsS o) N t x r (chk_okt N t 1 0 hG (by omega) h1) h4 hne]
end Go.Proofs.YtfnofjcdaghniaaDoor.Tree
/- boxes of one's own. Own work. -/
namespace Go.Proofs.YtfnofjcdaghniaaDoor.Tree
set_option linter.unusedVariables false
set_option linter.unusedSimpArgs false
open Go.RowKit Go.Proofs.YtfnofjcdaghniaaDoor.PL Go.Proofs.YtfnofjcdaghniaaDoor.Mt Go.Proofs.YtfnofjcdaghniaaDoorW.PrintWords Go.Proofs.YtfnofjcdaghniaaDoorW.PrintLast Go.Proofs.YtfnofjcdaghniaaDoorW.PrintMore
/-- boxes of one's own -/
structure BX (w wr : World) (L : List (Nat × Array Value)) : Prop where
  bel : Below w.heap.size w wr
  is : ∀ x ∈ L, w.heap.size ≤ x.1 ∧ wr.heap[x.1]? = some (.cells x.2 26 (0, 0))
theorem BX.nil {w wr : World} (h : Below w.heap.size w wr) : BX w wr [] := ⟨h, fun x hx => by simp at hx⟩
theorem BX.step {w wr w2 : World} {L : List (Nat × Array Value)} (h : BX w wr L) (hb : Below wr.heap.size wr w2) : BX w w2 L :=
  ⟨below_then h.bel h.bel.size hb, fun x hx => ⟨(h.is x hx).1, (hb.block _ (blk_lt (h.is x hx).2)).trans (h.is x hx).2⟩⟩
theorem BX.new {w wr : World} {L : List (Nat × Array Value)} (h : BX w wr L) (hl : w.heap.size ≤ wr.heap.size) (cs : Array Value) : BX w (wr.alloc (.cells cs 26)) ((wr.heap.size, cs) :: L) := by
  have hs := h.step (below_alloc (Below.refl _ wr) (.cells cs 26))
  refine ⟨hs.bel, fun x hx => ?_⟩
  rcases List.mem_cons.1 hx with rfl | hx
  · exact ⟨hl, heap_alloc_new wr _⟩
  · exact hs.is x hx
theorem BX.g0 {w wr : World} {a : Nat} {cs : Array Value} {L : List (Nat × Array Value)} (h : BX w wr ((a, cs) :: L)) : wr.heap[a]? = some (.cells cs 26 (0, 0)) := (h.is (a, cs) (List.mem_cons_self ..)).2
theorem BX.g1 {w wr : World} {a : Nat} {cs : Array Value} {x : Nat × Array Value} {L : List (Nat × Array Value)} (h : BX w wr (x :: (a, cs) :: L)) : wr.heap[a]? = some (.cells cs 26 (0, 0)) := (h.is (a, cs) (List.mem_cons_of_mem _ (List.mem_cons_self ..))).2
theorem BX.g2 {w wr : World} {a : Nat} {cs : Array Value} {x y : Nat × Array Value} {L : List (Nat × Array Value)} (h : BX w wr (x :: y :: (a, cs) :: L)) : wr.heap[a]? = some (.cells cs 26 (0, 0)) := (h.is (a, cs) (List.mem_cons_of_mem _ (List.mem_cons_of_mem _ (List.mem_cons_self ..)))).2
theorem atS_GT : ∀ (l : List ByteArray) (N : Nat) (t : S26), GT N t → Okt N t → ∃ L, GT L (atS l t).1 := by
  intro l
  induction l with
  | nil => intro N t h _; exact ⟨N, h⟩
  | cons a l ih =>
    intro N t h hO
    rw [atS]
    cases hh : hasS t.f3 a with
    | false => rw [if_neg (by simp)]; exact ⟨1, GT_z0⟩
    | true =>
      rw [if_pos rfl]
      obtain ⟨h1, -⟩ := has_get hh
      have hL := OktL hO
      have hin : posS t.f3 a < t.f4.length := by omega
      have hm : t.f4.getD (posS t.f3 a) dir0 ∈ t.f4 := by rw [List.getD_eq_getElem?_getD, List.getElem?_eq_getElem hin]; exact List.getElem_mem hin
      exact ih N _ (GT_kid h hm) (Okt_kid hO hm)
theorem AtS_GT {N : Nat} {t : S26} {p : ByteArray} (h : GT N t) : ∃ L, GT L (AtS N t p).1 := by
  unfold AtS
  by_cases h1 : (chk N t 1 0).1 = 0
  · rw [if_neg (by simpa using h1)]
    cases h3 : (partsS p).all isE with
    | false => exact ⟨1, GT_z0⟩
    | true => rw [if_neg (by simp)]; exact atS_GT _ N t h (chk_okt N t 1 0 h (by omega) h1)
  · rw [if_pos h1]; exact ⟨1, GT_z0⟩
end Go.Proofs.YtfnofjcdaghniaaDoor.Tree
/- what stands above a place that was put: plain laws. Own work. -/
namespace Go.Proofs.YtfnofjcdaghniaaDoor.Tree
set_option linter.unusedVariables false
set_option linter.unusedSimpArgs false
open Go.RowKit Go.Proofs.YtfnofjcdaghniaaDoor.PL Go.Proofs.YtfnofjcdaghniaaDoor.Mt Go.Proofs.YtfnofjcdaghniaaDoorW.PrintWords Go.Proofs.YtfnofjcdaghniaaDoorW.PrintLast Go.Proofs.YtfnofjcdaghniaaDoorW.PrintMore
theorem PutS_GT {N M : Nat} {t x r : S26} {p : ByteArray} (hG : GT N t) (hX : GT M x) (h : PutS N M t p x = (r, 0)) : GT (N + M + (partsS p).length + 1) r := by
  obtain ⟨h1, h2, h3, h4, h5⟩ := PutS_inv h
  have h6 := put_GT (partsS p) N N M (N + M + (partsS p).length + 1) t x hG (chk_okt N t 1 0 hG (by omega) h1) hX (fun n hn => isE_size (List.all_eq_true.1 h3 n hn)) (by omega)
  rw [h4] at h6
  exact h6
theorem at_above : ∀ (l : List ByteArray) (N : Nat) (t x r : S26), Okt N t → putS l t x = (r, 0) → ∀ m, m < l.length → ∃ y, atS (l.take m) r = (y, 0) ∧ y.f0 = 2 := by
  intro l
  induction l with
  | nil => intro N t x r hO hp m hm; simp at hm
  | cons a l ih =>
    intro N t x r hO hp m hm
    have h2 : t.f0 = 2 := by
      by_cases h : t.f0 = 2
      · exact h
      · rw [putS, if_pos h] at hp
        have := (Prod.mk.inj hp).2
        simp at this
    obtain ⟨hs, -⟩ := OktS hO
    have hL := OktL hO
    cases hh : hasS t.f3 a with
    | true =>
      obtain ⟨ha1, ha2⟩ := has_get hh
      obtain ⟨⟨r1, k⟩, hr⟩ : ∃ q, putS l (t.f4.getD (posS t.f3 a) dir0) x = q := ⟨_, rfl⟩
      have hk : k = 0 := by
        by_cases hk : k = 0
        · exact hk
        · rw [putS_err_t h2 hh rfl hr hk] at hp; exact absurd (Prod.mk.inj hp).2 hk
      subst hk
      rw [putS_ok_t h2 hh rfl hr] at hp
      have he := (Prod.mk.inj hp).1
      subst he
      cases m with
      | zero => exact ⟨_, rfl, h2⟩
      | succ m =>
        have hin : posS t.f3 a < t.f4.length := by omega
        have hmem : t.f4.getD (posS t.f3 a) dir0 ∈ t.f4 := by rw [List.getD_eq_getElem?_getD, List.getElem?_eq_getElem hin]; exact List.getElem_mem hin
        rw [List.take_succ_cons, atS, if_pos hh]
        show ∃ y, atS (l.take m) ((t.f4.set (posS t.f3 a) r1).getD (posS t.f3 a) dir0) = (y, 0) ∧ y.f0 = 2
        rw [List.getD_eq_getElem?_getD, List.getElem?_set_self hin, Option.getD_some]
        exact ih N _ x r1 (Okt_kid hO hmem) hr m (by simp at hm; omega)
    | false =>
      obtain ⟨⟨r1, k⟩, hr⟩ : ∃ q, putS l dir0 x = q := ⟨_, rfl⟩
      have hk : k = 0 := by
        by_cases hk : k = 0
        · exact hk
        · rw [putS_err_f h2 hh hr hk] at hp; exact absurd (Prod.mk.inj hp).2 hk
      subst hk
      rw [putS_ok_f h2 hh hr] at hp
      have he := (Prod.mk.inj hp).1
      subst he
      cases m with
      | zero => exact ⟨_, rfl, h2⟩
      | succ m =>
        have hle := posS_le t.f3 a
        have hlen : (t.f4.take (posS t.f3 a)).length = posS t.f3 a := by rw [List.length_take]; omega
        obtain ⟨s1, s2⟩ := ins_same hs hh
        rw [List.take_succ_cons, atS, if_pos s1]
        show ∃ y, atS (l.take m) ((t.f4.take (posS t.f3 a) ++ r1 :: t.f4.drop (posS t.f3 a)).getD (posS (t.f3.take (posS t.f3 a) ++ a :: t.f3.drop (posS t.f3 a)) a) dir0) = (y, 0) ∧ y.f0 = 2
        rw [s2, List.getD_eq_getElem?_getD, List.getElem?_append_right (by omega), hlen, Nat.sub_self]
        show ∃ y, atS (l.take m) r1 = (y, 0) ∧ y.f0 = 2
        exact ih 1 dir0 x r1 Okt_dir0 hr m (by simp at hm; omega)
theorem scanL_pos (L acc : List UInt8) : 0 < (scanL L acc).length := by
  cases L with
  | nil => simp [scanL]
  | cons c r =>
    rw [scanL]
    split
    · simp
    · induction r generalizing acc c with
      | nil => simp [scanL]
      | cons d r ih =>
        rw [scanL]
        split
        · simp
        · exact ih _ _ (by assumption)
theorem scan_take : ∀ (L acc : List UInt8) (j : Nat), L[j]? = some 47 → ∃ m, m < (scanL L acc).length ∧ scanL (L.take j) acc = (scanL L acc).take m := by
  intro L
  induction L with
  | nil => intro acc j h; simp at h
  | cons c r ih =>
    intro acc j h
    cases j with
    | zero =>
      have hc : c = 47 := by simpa using h
      refine ⟨1, ?_, ?_⟩
      · rw [scanL, if_pos hc, List.length_cons]; have := scanL_pos r []; omega
      · rw [scanL.eq_def (c :: r), List.take_zero]
        simp only
        rw [if_pos hc]; rfl
    | succ j =>
      have h1 : r[j]? = some 47 := by simpa using h
      rw [List.take_succ_cons]
      by_cases hc : c = 47
      · obtain ⟨m, hm, he⟩ := ih [] j h1
        refine ⟨m + 1, ?_, ?_⟩
        · rw [scanL, if_pos hc, List.length_cons]; omega
        · rw [scanL, if_pos hc, scanL, if_pos hc, List.take_succ_cons, he]
      · obtain ⟨m, hm, he⟩ := ih (acc ++ [c]) j h1
        refine ⟨m, ?_, ?_⟩
        · rw [scanL, if_neg hc]; exact hm
        · rw [scanL, if_neg hc, scanL, if_neg hc, he]
theorem parts_scan {s : ByteArray} (h : s.size ≠ 0) : (partsS s).map (fun b => b.data.toList) = scanL s.data.toList [] := by
  unfold partsS
  rw [if_neg h]
  exact split_scan _ s rfl
theorem parts_prefix {s : ByteArray} {j : Nat} (hj : s.data.toList[j]? = some 47) : ∃ m, m < (partsS s).length ∧ partsS (s.extract 0 j) = (partsS s).take m := by
  have hlt : j < s.data.toList.length := (List.getElem?_eq_some_iff.1 hj).1
  rw [size_data] at hlt
  have h0 : s.size ≠ 0 := by omega
  have hp := parts_scan h0
  have hL : (partsS s).length = (scanL s.data.toList []).length := by rw [← hp, List.length_map]
  by_cases hz : j = 0
  · subst hz
    refine ⟨0, by rw [hL]; exact scanL_pos _ _, ?_⟩
    unfold partsS
    rw [if_pos (by simp)]; rfl
  · have e1 : (s.extract 0 j).data.toList = s.data.toList.take j := by simp
    have e2 : (s.extract 0 j).size ≠ 0 := by
      rw [← size_data, e1, List.length_take, size_data]; omega
    obtain ⟨m, hm, he⟩ := scan_take s.data.toList [] j hj
    refine ⟨m, by omega, ?_⟩
    have h3 := parts_scan e2
    rw [e1, he, ← hp, ← List.map_take] at h3
    exact List.map_inj_right (fun a b h => by
      cases a; cases b
      simp only at h
      exact congrArg ByteArray.mk (Array.toList_inj.1 h)) |>.1 h3
theorem AtS_above {N M : Nat} {t x r : S26} {p : ByteArray} {j : Nat} (hG : GT N t) (h : PutS N M t p x = (r, 0)) (hj : p.data.toList[j]? = some 47) :
    ∃ y, AtS (N + M + (partsS p).length + 1) r (p.extract 0 j) = (y, 0) ∧ y.f0 = 2 := by
  obtain ⟨h1, h2, h3, h4, h5⟩ := PutS_inv h
  obtain ⟨m, hm, he⟩ := parts_prefix hj
  obtain ⟨y, hy, hy2⟩ := at_above (partsS p) N t x r (chk_okt N t 1 0 hG (by omega) h1) h4 m hm
  refine ⟨y, ?_, hy2⟩
  unfold AtS
  rw [h5, if_neg (show ¬ ((0 : Int) ≠ 0) by simp), he, if_neg, hy]
  have : ((partsS p).take m).all isE = true := List.all_eq_true.2 (fun s hs => List.all_eq_true.1 h3 s (List.mem_of_mem_take hs))
  rw [this]; simp
end Go.Proofs.YtfnofjcdaghniaaDoor.Tree
/- sorted lists of texts, as plain laws. Own work. -/
namespace Go.Proofs.YtfnofjcdaghniaaDoor.Tree
set_option linter.unusedVariables false
set_option linter.unusedSimpArgs false
open Go.RowKit Go.Proofs.YtfnofjcdaghniaaDoor.PL Go.Proofs.YtfnofjcdaghniaaDoor.Mt Go.Proofs.YtfnofjcdaghniaaDoorW.PrintWords Go.Proofs.YtfnofjcdaghniaaDoorW.PrintLast Go.Proofs.YtfnofjcdaghniaaDoorW.PrintMore
theorem bl_lt : ∀ (x y : List UInt8), Op.bytesLess x y = decide (x < y) := by
  intro x
  induction x with
  | nil => intro y; cases y <;> simp [Op.bytesLess]
  | cons a x ih =>
    intro y
    cases y with
    | nil => simp [Op.bytesLess]
    | cons b y =>
      rw [Bool.eq_iff_iff, decide_eq_true_iff, List.cons_lt_cons_iff]
      unfold Op.bytesLess
      by_cases h1 : a < b
      · simp [h1]
      · by_cases h2 : a = b
        · subst h2
          simp [ih y]
        · have h3 : b < a := by
            have := UInt8.lt_or_eq_of_le (UInt8.not_lt.1 h1)
            rcases this with h | h
            · exact h
            · exact absurd h.symm h2
          simp [h1, h2, h3]
theorem le_ltB {a b : ByteArray} : decide (a.toList ≤ b.toList) = !ltB b a := by
  unfold ltB
  rw [bl_lt, Bool.eq_iff_iff]
  simp [List.not_lt]
theorem ltB_le_trans {a b c : ByteArray} (h : ltB b a = false) (k : ltB c b = false) : ltB c a = false := by
  cases hc : ltB c a with
  | false => rfl
  | true =>
    cases hab : ltB a b with
    | true => have := ltB_trans hc hab; rw [k] at this; cases this
    | false => have := ltB_tri hab h; subst this; rw [k] at hc; cases hc
/-- in order -/
def Ord (l : List ByteArray) : Prop := l.Pairwise (fun a b => ltB b a = false)
theorem sortS_perm (xs : List ByteArray) : (sortS xs).Perm xs := by
  unfold sortS
  have h := (List.mergeSort_perm (xs.map ByteArray.toList) (fun x y => decide (x ≤ y))).map (fun l : List UInt8 => (⟨l.toArray⟩ : ByteArray))
  rw [List.map_map] at h
  refine h.trans (List.Perm.of_eq ?_)
  conv => rhs; rw [← List.map_id xs]
  exact List.map_congr_left (fun s _ => of_toList s)
theorem sortS_ord (xs : List ByteArray) : Ord (sortS xs) := by
  unfold Ord sortS
  have h := List.pairwise_mergeSort (le := fun (x y : List UInt8) => decide (x ≤ y)) (fun a b c h k => by
    simp only [decide_eq_true_eq] at h k ⊢
    exact List.le_trans h k) (fun a b => by
    simp only [Bool.or_eq_true, decide_eq_true_eq]
    exact List.le_total a b) (xs.map ByteArray.toList)
  rw [List.pairwise_map]
  refine h.imp (fun {a b} hab => ?_)
  have e : ∀ l : List UInt8, (⟨l.toArray⟩ : ByteArray).toList = l := fun l => by rw [toList_data]
  have h2 := le_ltB (a := ⟨a.toArray⟩) (b := ⟨b.toArray⟩)
  rw [e, e, hab] at h2
  cases h3 : ltB (⟨b.toArray⟩ : ByteArray) ⟨a.toArray⟩ with
  | false => rfl
  | true => rw [h3] at h2; cases h2
theorem ord_eq {l m : List ByteArray} (hl : Ord l) (hm : Ord m) (h : l.Perm m) : l = m :=
  List.Perm.eq_of_pairwise (fun a b _ _ h1 h2 => (ltB_tri h1 h2).symm) hl hm h
/-- the element at a place -/
abbrev at_ (ys : List ByteArray) (i : Nat) : ByteArray := ys.getD i ByteArray.empty
theorem at_set {ys : List ByteArray} {i j : Nat} {x : ByteArray} (hi : i < ys.length) : at_ (ys.set i x) j = if j = i then x else at_ ys j := by
  unfold at_
  rw [List.getD_eq_getElem?_getD, List.getD_eq_getElem?_getD, List.getElem?_set]
  by_cases h : i = j
  · subst h; rw [if_pos rfl, if_pos hi, if_pos rfl]; rfl
  · rw [if_neg h, if_neg (fun e => h e.symm)]
theorem at_get {ys : List ByteArray} {i : Nat} (hi : i < ys.length) : at_ ys i = ys[i] := by
  unfold at_
  rw [List.getD_eq_getElem?_getD, List.getElem?_eq_getElem hi]; rfl
/-- in order up to i, the one at k apart, that may stand too far behind -/
def InsP (ys : List ByteArray) (i k : Nat) : Prop := ∀ a b, a < b → b ≤ i → b ≠ k → ltB (at_ ys b) (at_ ys a) = false
def SrtP (ys : List ByteArray) (m : Nat) : Prop := ∀ a b, a < b → b < m → ltB (at_ ys b) (at_ ys a) = false
theorem InsP.of {ys : List ByteArray} {i : Nat} (h : SrtP ys i) : InsP ys i i := fun a b hab hb hk => h a b hab (by omega)
theorem InsP.zero {ys : List ByteArray} {i : Nat} (h : InsP ys i 0) : SrtP ys (i + 1) := fun a b hab hb => h a b hab (by omega) (by omega)
theorem InsP.stop {ys : List ByteArray} {i k : Nat} (h : InsP ys i k) (hk : 0 < k) (hki : k ≤ i) (hs : ltB (at_ ys k) (at_ ys (k - 1)) = false) : SrtP ys (i + 1) := by
  intro a b hab hb
  by_cases hbk : b = k
  · subst hbk
    by_cases ha : a = b - 1
    · subst ha; exact hs
    · exact ltB_le_trans (h a (b - 1) (by omega) (by omega) (by omega)) hs
  · exact h a b hab (by omega) hbk
theorem InsP.swap {ys : List ByteArray} {i k : Nat} (h : InsP ys i k) (hk : 0 < k) (hki : k ≤ i) (hi : i < ys.length) (hs : ltB (at_ ys k) (at_ ys (k - 1)) = true) :
    InsP ((ys.set k (at_ ys (k - 1))).set (k - 1) (at_ ys k)) i (k - 1) := by
  have e : ∀ j, at_ ((ys.set k (at_ ys (k - 1))).set (k - 1) (at_ ys k)) j = if j = k - 1 then at_ ys k else if j = k then at_ ys (k - 1) else at_ ys j := fun j => by
    rw [at_set (by rw [List.length_set]; omega), at_set (by omega)]
  intro a b hab hb hbk
  rw [e, e, if_neg hbk]
  by_cases h1 : b = k
  · subst h1
    rw [if_pos rfl]
    by_cases ha : a = b - 1
    · rw [if_pos ha]; exact ltB_asymm hs
    · rw [if_neg ha, if_neg (by omega)]
      exact h a (b - 1) (by omega) (by omega) (by omega)
  · rw [if_neg h1]
    by_cases ha : a = k - 1
    · rw [if_pos ha]; exact h k b (by omega) hb h1
    · rw [if_neg ha]
      by_cases ha2 : a = k
      · rw [if_pos ha2]; exact h (k - 1) b (by omega) hb h1
      · rw [if_neg ha2]; exact h a b hab hb h1
theorem swap_perm {ys : List ByteArray} {k : Nat} (hk : 0 < k) (hi : k < ys.length) : ((ys.set k (at_ ys (k - 1))).set (k - 1) (at_ ys k)).Perm ys := by
  rw [at_get hi, at_get (show k - 1 < ys.length by omega)]
  exact List.set_set_perm hi (by omega)
theorem srt_ord {ys : List ByteArray} (h : SrtP ys ys.length) : Ord ys := by
  unfold Ord
  rw [List.pairwise_iff_getElem]
  intro i j hi hj hij
  have := h i j hij hj
  rw [at_get hi, at_get hj] at this
  exact this
theorem srt_sort {ys xs : List ByteArray} (h : SrtP ys ys.length) (hp : ys.Perm xs) : ys = sortS xs :=
  ord_eq (srt_ord h) (sortS_ord xs) (hp.trans (sortS_perm xs).symm)
end Go.Proofs.YtfnofjcdaghniaaDoor.Tree
/- the reference's walk, walked. Own work; printed by gen_wk.py out of FiA. -/
namespace Go.Proofs.YtfnofjcdaghniaaDoor.Tree
set_option linter.unusedVariables false
set_option linter.unusedSimpArgs false
open Go.RowKit Go.Proofs.YtfnofjcdaghniaaDoor.PL Go.Proofs.YtfnofjcdaghniaaDoor.Mt Go.Proofs.YtfnofjcdaghniaaDoorW.PrintWords Go.Proofs.YtfnofjcdaghniaaDoorW.PrintLast Go.Proofs.YtfnofjcdaghniaaDoorW.PrintMore
def CW (w0 : World) (N : Nat) : Prop := ∀ (t : S26) (A2 : Option Addr) (c2 : Nat) (A3 : Option Addr) (c3 : Nat) (A4 : Option Addr) (c4 : Nat) (p : ByteArray) (w : World) (g : Nat) (A : Option Addr) (c : Nat) (xs : List ByteArray) (d : Nat), TR w0 t A2 c2 A3 c3 A4 c4 → CHK N d t → p.size ≤ 200 * d → w0.heap.size ≤ g → FL w0 w g A c xs → xs.length + cntN N t ≤ 65536 →
  Calls Tryd.prog 37 #[TV t A2 c2 A3 c3 A4 c4, .string p, .pointer (some ⟨g, 0, none⟩)] w fun e w' => e = .returned (.tuple #[]) ∧ ∃ A' c', FL w0 w' g A' c' (xs ++ filesS N t p) ∧ KeepBut w w' g (Value.slice A xs.length c).ownBlock ∧ ((Value.slice A' (xs ++ filesS N t p).length c').ownBlock = (Value.slice A xs.length c).ownBlock ∨ ∃ b, (Value.slice A' (xs ++ filesS N t p).length c').ownBlock = some b ∧ w.heap.size ≤ b)
set_option maxRecDepth 20000 in
set_option maxHeartbeats 2000000 in
theorem walk_leaf (w0 : World) (N : Nat) (t : S26) (A2 : Option Addr) (c2 : Nat) (A3 : Option Addr) (c3 : Nat) (A4 : Option Addr) (c4 : Nat) (p : ByteArray) (w : World) (g : Nat) (A : Option Addr) (c : Nat) (xs : List ByteArray) (h1 : t.f0 = 1) (hk : t.f4 = []) (hg : w0.heap.size ≤ g) (hF : FL w0 w g A c xs) (hl : xs.length < 65536) :
  Calls Tryd.prog 37 #[TV t A2 c2 A3 c3 A4 c4, .string p, .pointer (some ⟨g, 0, none⟩)] w fun e w' => e = .returned (.tuple #[]) ∧ ∃ A' c', FL w0 w' g A' c' (xs ++ [p]) ∧ KeepBut w w' g (Value.slice A xs.length c).ownBlock ∧ ((Value.slice A' (xs ++ [p]).length c').ownBlock = (Value.slice A xs.length c).ownBlock ∨ ∃ b, (Value.slice A' (xs ++ [p]).length c').ownBlock = some b ∧ w.heap.size ≤ b) := by
  have hb1 := below_alloc (Below.refl w.heap.size w) (.cells #[.int .i64 t.f0, .bool t.f1, .slice A2 t.f2.length c2, .slice A3 t.f3.length c3, .slice A4 t.f4.length c4] 26)
  have HF1 := Aside0.mk (hF.below hb1)
  have HP1 := Aside0.mk (heap_alloc_new w (.cells #[.int .i64 t.f0, .bool t.f1, .slice A2 t.f2.length c2, .slice A3 t.f3.length c3, .slice A4 t.f4.length c4] 26))
  have HK1 : Aside0 (KeepBut w (w.alloc (.cells #[.int .i64 t.f0, .bool t.f1, .slice A2 t.f2.length c2, .slice A3 t.f3.length c3, .slice A4 t.f4.length c4] 26)) g (Value.slice A xs.length c).ownBlock) := ⟨KeepBut.of_below hb1 g _⟩
  have HO : Aside0 (∀ k, (Value.slice A xs.length c).ownBlock = some k → k < w.heap.size) := ⟨Kd.R_lt hF.r⟩
  have HSZ : Aside0 (w.heap.size ≤ (w.alloc (.cells #[.int .i64 t.f0, .bool t.f1, .slice A2 t.f2.length c2, .slice A3 t.f3.length c3, .slice A4 t.f4.length c4] 26)).heap.size) := ⟨hb1.size⟩
  have hpg : w.heap.size ≠ g := by have := blk_lt hF.blk; omega
  have HG := Aside0.mk hg
  have HK4 : Aside0 (t.f4.length = 0) := ⟨by rw [hk]; rfl⟩
  have hf0 : (t.f0 == 1) = true := by simp [h1]
  have hpo : Aside0 (some w.heap.size ≠ (Value.slice A xs.length c).ownBlock) := ⟨fun he => by have := HO.out _ he.symm; omega⟩
  clear hF hb1 hg h1 hk
  go_enter Tryd.func37, Tryd.ntmps37
  go_upto_region 1 with fail
  generalize (w.alloc (.cells #[.int .i64 t.f0, .bool t.f1, .slice A2 t.f2.length c2, .slice A3 t.f3.length c3, .slice A4 t.f4.length c4] 26)) = wa at *
  obtain ⟨pp, hpp⟩ : ∃ q, w.heap.size = q := ⟨_, rfl⟩
  rw [hpp] at HP1 hpg hpo ⊢
  have HPP := Aside0.mk hpp
  clear hpp
  obtain ⟨x0, x1, x2, x3, x4⟩ := cells5 HP1.out
  have g0 : wa.cell? ⟨g, 0, none⟩ = some (.slice A xs.length c) := (blk_cell HF1.out.blk 0).trans rfl
  go_upto_region 2 with fail
  have hal := below_alloc (Below.refl wa.heap.size wa) (.cells #[.string p] 9)
  have HA := Aside0.mk (heap_alloc_new wa (.cells #[.string p] 9))
  have HF2 := Aside0.mk (HF1.out.below hal)
  have HP2 := Aside0.mk (blk_alloc HP1.out (.cells #[.string p] 9))
  have HK2 : Aside0 (KeepBut w (wa.alloc (.cells #[.string p] 9)) g (Value.slice A xs.length c).ownBlock) := ⟨HK1.out.trans (KeepBut.of_below hal g _) (.inl rfl)⟩
  have hsz2 := hal.size
  go_wp2_with (at_builtin; refine hold_ ?_)
  refine ⟨?_⟩
  refine Kd.R_append_rows Kd.string (w0 := w0) w0.heap.size rfl (.tmp 14) (.tmp 16) 23 9 (.string ByteArray.empty) 16 rfl Tryd.underlying23 info9 rfl (by decide) (by omega) (.slice A xs.length c) xs [p] _ _ _ (fun _ => True) (fun _ => False) rfl rfl HF2.out.r (row1 HA.out) (fun q c h => by rw [h]; rfl) (fun _ h => h.elim) (fun _ _ => trivial) HF2.out.bel HF2.out.bel.size (by omega) ?_
  intro v1 w4 hr4 hb4 hg4 hat4
  obtain ⟨A', c', rfl⟩ := Kd.R_slice hr4
  have HR4 := Aside0.mk hr4
  have HB4 := Aside0.mk hb4
  have HG4 : Aside0 (w4.heap[g]? = some (.cells #[.slice A xs.length c] 23 (0, 0))) := ⟨(hg4.block _ (blk_lt HF2.out.blk) (Kd.R_ne HF2.out.r HF2.out.blk (by decide))).trans HF2.out.blk⟩
  have HP4 : Aside0 (w4.heap[pp]? = _) := ⟨(hg4.block _ (blk_lt HP2.out) hpo.out).trans HP2.out⟩
  have HK4' : Aside0 (KeepBut w w4 g (Value.slice A xs.length c).ownBlock) := ⟨HK2.out.trans (KeepBut.of_grown hg4 g) (.inl rfl)⟩
  have HAT : Aside0 ((Value.slice A' (xs ++ [p]).length c').ownBlock = (Value.slice A xs.length c).ownBlock ∨ ∃ b, (Value.slice A' (xs ++ [p]).length c').ownBlock = some b ∧ w.heap.size ≤ b) := ⟨hat4.imp id (fun ⟨b, h1, h2⟩ => ⟨b, h1, by have := HSZ.out; omega⟩)⟩
  obtain ⟨nn, hnn⟩ : ∃ q, (xs ++ [p]).length = q := ⟨_, rfl⟩
  have HNN := Aside0.mk hnn
  clear hr4 hb4 hg4 hat4 HF2 HP2 HK2 HA HF1 HP1 HK1 x0 x1 x2 x3 x4 g0 hal hsz2
  have HFE : Aside0 (FL w0 (w4.setCell ⟨g, 0, none⟩ (.slice A' (xs ++ [p]).length c')) g A' c' (xs ++ [p])) := ⟨{ blk := by simpa using blk_set HG4.out 0 (.slice A' (xs ++ [p]).length c'), r := Kd.R_set HR4.out HG4.out (by decide) 0 _, bel := below_set HB4.out HG.out }⟩
  have HKE := Aside0.mk (HK4'.out.set_ 0 (.slice A' (xs ++ [p]).length c'))
  have HPE := Aside0.mk (blk_far HP4.out (p := ⟨g, 0, none⟩) hpg (.slice A' (xs ++ [p]).length c'))
  have g0 : w4.cell? ⟨g, 0, none⟩ = some (.slice A xs.length c) := (blk_cell HG4.out 0).trans rfl
  have gf0 : w4.frozen? ⟨g, 0, none⟩ = false := blk_frozen HG4.out 0
  rw [hnn] at HFE HKE HPE HAT ⊢
  clear hnn
  go_upto_region 3 with fail
  generalize (w4.setCell ⟨g, 0, none⟩ (.slice A' nn c')) = w5 at *
  obtain ⟨x0, x1, x2, x3, x4⟩ := cells5 HPE.out
  clear g0 gf0
  go_wp2_with fail
  go_loopw [6] (fun v wr => v = .int .i64 0 ∧ wr = w5) (fun _ _ => 0)
  case atStart => exact ⟨rfl, rfl⟩
  case round =>
    obtain ⟨rfl, rfl⟩ := hrel
    have hk4 := HK4.out
    go_wp2_with fail
    refine bodyPost_end (v := .tuple #[]) (by simp [results, Tryd.results37, go_sem]) rfl ⟨rfl, A', c', ?_, HKE.out, ?_⟩
    · exact HFE.out
    · have := HAT.out; rw [← HNN.out] at this; exact this
set_option maxRecDepth 20000 in
set_option maxHeartbeats 2000000 in
theorem walk_dir (w0 : World) (N : Nat) (ih : CW w0 N) (t : S26) (A2 : Option Addr) (c2 : Nat) (A3 : Option Addr) (c3 : Nat) (A4 : Option Addr) (c4 : Nat) (p : ByteArray) (w : World) (g : Nat) (A : Option Addr) (c : Nat) (xs : List ByteArray) (h1 : t.f0 ≠ 1) (ht : TR w0 t A2 c2 A3 c3 A4 c4) (hlen : t.f3.length = t.f4.length) (d : Nat) (hch : ∀ u ∈ t.f4, CHK N (d + 1) u) (hd : d ≤ 64) (hps : p.size ≤ 200 * d) (hnm : ∀ s ∈ t.f3, isE s = true) (hg : w0.heap.size ≤ g) (hF : FL w0 w g A c xs) (hl : xs.length + (t.f4.map (cntN N)).sum ≤ 65536) (hl4 : t.f4.length ≤ 65536) :
  Calls Tryd.prog 37 #[TV t A2 c2 A3 c3 A4 c4, .string p, .pointer (some ⟨g, 0, none⟩)] w fun e w' => e = .returned (.tuple #[]) ∧ ∃ A' c', FL w0 w' g A' c' (xs ++ kidsF (filesS N) p t.f3 t.f4) ∧ KeepBut w w' g (Value.slice A xs.length c).ownBlock ∧ ((Value.slice A' (xs ++ kidsF (filesS N) p t.f3 t.f4).length c').ownBlock = (Value.slice A xs.length c).ownBlock ∨ ∃ b, (Value.slice A' (xs ++ kidsF (filesS N) p t.f3 t.f4).length c').ownBlock = some b ∧ w.heap.size ≤ b) := by
  have hb1 := below_alloc (Below.refl w.heap.size w) (.cells #[.int .i64 t.f0, .bool t.f1, .slice A2 t.f2.length c2, .slice A3 t.f3.length c3, .slice A4 t.f4.length c4] 26)
  have HF1 := Aside0.mk (hF.below hb1)
  have HP1 := Aside0.mk (heap_alloc_new w (.cells #[.int .i64 t.f0, .bool t.f1, .slice A2 t.f2.length c2, .slice A3 t.f3.length c3, .slice A4 t.f4.length c4] 26))
  obtain ⟨own, hown⟩ : ∃ q, (Value.slice A xs.length c).ownBlock = q := ⟨_, rfl⟩
  have HOWN := Aside0.mk hown
  rw [hown]
  have HK1 : Aside0 (KeepBut w (w.alloc (.cells #[.int .i64 t.f0, .bool t.f1, .slice A2 t.f2.length c2, .slice A3 t.f3.length c3, .slice A4 t.f4.length c4] 26)) g own) := ⟨KeepBut.of_below hb1 g _⟩
  have hpg : w.heap.size ≠ g := by have := blk_lt hF.blk; omega
  have HG := Aside0.mk hg
  have IH := Aside0.mk ih
  have HT := Aside0.mk ht
  have HLEN := Aside0.mk hlen
  have HCH := Aside0.mk hch
  have HNM := Aside0.mk hnm
  have hps2 : p.size ≤ 12800 := by omega
  have HL := Aside0.mk hl
  have hf0 : (t.f0 == 1) = false := by simp [h1]
  clear hF hb1 hg h1 ih ht hlen hch hnm hl hown
  go_enter Tryd.func37, Tryd.ntmps37
  go_upto_region 1 with fail
  generalize (w.alloc (.cells #[.int .i64 t.f0, .bool t.f1, .slice A2 t.f2.length c2, .slice A3 t.f3.length c3, .slice A4 t.f4.length c4] 26)) = wa at *
  obtain ⟨pp, hpp⟩ : ∃ q, w.heap.size = q := ⟨_, rfl⟩
  rw [hpp] at HP1 hpg ⊢
  have HPP := Aside0.mk hpp
  clear hpp
  obtain ⟨x0, x1, x2, x3, x4⟩ := cells5 HP1.out
  go_wp2_with fail
  go_loopw [6] (fun v wr => ∃ (k : Nat) (A' : Option Addr) (c' : Nat) (ys : List ByteArray), v = .int .i64 (k : Int) ∧ k ≤ t.f4.length ∧ Aside0 (xs ++ kidsF (filesS N) p t.f3 t.f4 = ys ++ kidsF (filesS N) p (t.f3.drop k) (t.f4.drop k)) ∧ Aside0 (ys.length + ((t.f4.drop k).map (cntN N)).sum ≤ 65536) ∧ Aside0 (FL w0 wr g A' c' ys) ∧ Aside0 (wr.heap[pp]? = some (.cells #[.int .i64 t.f0, .bool t.f1, .slice A2 t.f2.length c2, .slice A3 t.f3.length c3, .slice A4 t.f4.length c4] 26)) ∧ Aside0 (KeepBut w wr g own) ∧ Aside0 ((Value.slice A' ys.length c').ownBlock = own ∨ ∃ b, (Value.slice A' ys.length c').ownBlock = some b ∧ w.heap.size ≤ b)) (fun v _ => t.f4.length - (intOf v).toNat)
  case atStart => exact ⟨0, A, c, xs, rfl, Nat.zero_le _, ⟨rfl⟩, ⟨HL.out⟩, HF1, HP1, HK1, ⟨.inl HOWN.out⟩⟩
  case round =>
    clear HF1 HP1 HK1 x0 x1 x2 x3 x4 HL
    obtain ⟨k, A', c', ys, rfl, hk, HE, HL, HF, HP, HK, HAT⟩ := hrel
    by_cases hlt : k < t.f4.length
    · obtain ⟨ad, B2, d2, B3, d3, B4, d4, hA, e0, e1, e2, e3, e4, r1, r2, r3, r4, r5, r6⟩ := at_T26 HT.out.2.2.2.2.2 (k : Int) (by omega) (by omega)
      obtain ⟨ad3, hA3, hcn⟩ := Kd.at_string HT.out.2.2.2.1 (k : Int) (by omega) (by have := HLEN.out; omega)
      obtain ⟨u, hu⟩ : ∃ x, rd_T26 t.f4 (k : Int) = x := ⟨_, rfl⟩
      have hue : t.f4[k] = u := by rw [← hu, rdT hlt]
      have HLT3 : Aside0 (k < t.f3.length) := ⟨by have := HLEN.out; omega⟩
      obtain ⟨nm, hnm⟩ : ∃ x, rdOf ByteArray.empty t.f3 (k : Int) = x := ⟨_, rfl⟩
      have hne : t.f3[k]'HLT3.out = nm := by rw [← hnm, rdB HLT3.out]
      rw [hnm] at hcn
      rw [hu] at e0 e1 e2 e3 e4 r1 r2 r3 r4 r5 r6
      rw [Int.toNat_natCast] at e0 e1 e2 e3 e4 hcn
      have hns : nm.size ≤ 100 := isE_100 (HNM.out nm (by rw [← hne]; exact List.getElem_mem HLT3.out))
      have HUS : Aside0 ((und p nm).size ≤ 200 * (d + 1)) := ⟨und_size hns hps⟩
      have HCU : Aside0 (CHK N (d + 1) u) := ⟨hue ▸ HCH.out _ (List.getElem_mem hlt)⟩
      have HTR : Aside0 (TR w0 u B2 d2 B3 d3 B4 d4) := ⟨⟨r1, r2, r3, r4, r5, r6⟩⟩
      have f0 := pw_cell_below HF.out.bel e0
      have f1 := pw_cell_below HF.out.bel e1
      have f2 := pw_cell_below HF.out.bel e2
      have f3 := pw_cell_below HF.out.bel e3
      have f4 := pw_cell_below HF.out.bel e4
      have hcn1 := pw_cell_below HF.out.bel hcn
      have HE2 : Aside0 (xs ++ kidsF (filesS N) p t.f3 t.f4 = (ys ++ filesS N u (und p nm)) ++ kidsF (filesS N) p (t.f3.drop (k + 1)) (t.f4.drop (k + 1))) := ⟨by rw [HE.out, List.drop_eq_getElem_cons hlt, List.drop_eq_getElem_cons HLT3.out, hue, hne, kidsF, List.append_assoc]⟩
      have HL2 : Aside0 (ys.length + cntN N u + ((t.f4.drop (k + 1)).map (cntN N)).sum ≤ 65536) := ⟨by have := HL.out; rw [List.drop_eq_getElem_cons hlt, hue, List.map_cons, List.sum_cons] at this; omega⟩
      subst hA
      subst hA3
      clear hue hne hu hnm e0 e1 e2 e3 e4 r1 r2 r3 r4 r5 r6 hcn HE HL
      have hk3 : (k : Int) < (t.f3.length : Int) := by have := HLT3.out; omega
      have HFb := HF
      have HPb := HP
      have HKb := HK
      obtain ⟨x0, x1, x2, x3, x4⟩ := cells5 HPb.out
      clear HF HP HK
      have HCALL := Aside0.mk (IH.out u B2 d2 B3 d3 B4 d4 (und p nm) wr g A' c' ys (d + 1) HTR.out HCU.out HUS.out HG.out HFb.out (by have := HL2.out; omega))
      have HPN : Aside0 (some pp ≠ (Value.slice A' ys.length c').ownBlock) := ⟨Kd.R_ne HFb.out.r HPb.out (by decide)⟩
      cases hp : (p.toList == []) with
      | true =>
        have hu : und p nm = nm := by unfold und; rw [if_pos hp]
        rw [hu] at HCALL HE2
        clear hu
        go_wp2_with fail
        refine HCALL.out.mono ?_
        rintro e_ w7 ⟨rfl, A7, c7, hf7, hk7, hat7⟩
        have HF7 := Aside0.mk hf7
        have HP7 : Aside0 (w7.heap[pp]? = some (.cells #[.int .i64 t.f0, .bool t.f1, .slice A2 t.f2.length c2, .slice (some ad3) t.f3.length c3, .slice (some ad) t.f4.length c4] 26)) := ⟨(hk7.2 _ (blk_lt HPb.out) hpg HPN.out).trans HPb.out⟩
        have HK7 : Aside0 (KeepBut w w7 g own) := ⟨HKb.out.trans hk7 HAT.out⟩
        have HAT7 : Aside0 ((Value.slice A7 (ys ++ filesS N u (nm)).length c7).ownBlock = own ∨ ∃ b, (Value.slice A7 (ys ++ filesS N u (nm)).length c7).ownBlock = some b ∧ w.heap.size ≤ b) := ⟨by
          rcases hat7 with h9 | ⟨b, h9, h8⟩
          · rw [h9]; exact HAT.out
          · exact .inr ⟨b, h9, Nat.le_trans HKb.out.1 h8⟩⟩
        have HL7 : Aside0 ((ys ++ filesS N u (nm)).length + ((t.f4.drop (k + 1)).map (cntN N)).sum ≤ 65536) := ⟨by have h9 := HL2.out; have h8 := files_len N u (nm); rw [List.length_append]; omega⟩
        clear hf7 hk7 hat7 HCALL x0 x1 x2 x3 x4 f0 f1 f2 f3 f4 hcn1 HKb HPb HFb HAT HL2
        go_wp2_with fail
        exact ⟨⟨k + 1, A7, c7, _, by go_num, by omega, HE2, HL7, HF7, HP7, HK7, HAT7⟩, by simp [intOf]; omega⟩
      | false =>
        have hu : und p nm = (p ++ ⟨#[47]⟩) ++ nm := by unfold und; rw [if_neg (by rw [hp]; simp)]
        rw [hu] at HCALL HE2
        clear hu
        go_wp2_with fail
        refine HCALL.out.mono ?_
        rintro e_ w7 ⟨rfl, A7, c7, hf7, hk7, hat7⟩
        have HF7 := Aside0.mk hf7
        have HP7 : Aside0 (w7.heap[pp]? = some (.cells #[.int .i64 t.f0, .bool t.f1, .slice A2 t.f2.length c2, .slice (some ad3) t.f3.length c3, .slice (some ad) t.f4.length c4] 26)) := ⟨(hk7.2 _ (blk_lt HPb.out) hpg HPN.out).trans HPb.out⟩
        have HK7 : Aside0 (KeepBut w w7 g own) := ⟨HKb.out.trans hk7 HAT.out⟩
        have HAT7 : Aside0 ((Value.slice A7 (ys ++ filesS N u (p ++ ⟨#[47]⟩ ++ nm)).length c7).ownBlock = own ∨ ∃ b, (Value.slice A7 (ys ++ filesS N u (p ++ ⟨#[47]⟩ ++ nm)).length c7).ownBlock = some b ∧ w.heap.size ≤ b) := ⟨by
          rcases hat7 with h9 | ⟨b, h9, h8⟩
          · rw [h9]; exact HAT.out
          · exact .inr ⟨b, h9, Nat.le_trans HKb.out.1 h8⟩⟩
        have HL7 : Aside0 ((ys ++ filesS N u ((p ++ ⟨#[47]⟩) ++ nm)).length + ((t.f4.drop (k + 1)).map (cntN N)).sum ≤ 65536) := ⟨by have h9 := HL2.out; have h8 := files_len N u ((p ++ ⟨#[47]⟩) ++ nm); rw [List.length_append]; omega⟩
        clear hf7 hk7 hat7 HCALL x0 x1 x2 x3 x4 f0 f1 f2 f3 f4 hcn1 HKb HPb HFb HAT HL2
        go_wp2_with fail
        exact ⟨⟨k + 1, A7, c7, _, by go_num, by omega, HE2, HL7, HF7, HP7, HK7, HAT7⟩, by simp [intOf]; omega⟩
    · obtain ⟨x0, x1, x2, x3, x4⟩ := cells5 HP.out
      have hkk : k = t.f4.length := by omega
      have HE3 : Aside0 (xs ++ kidsF (filesS N) p t.f3 t.f4 = ys) := ⟨by rw [HE.out, hkk, List.drop_length, kidsF, List.append_nil]; exact fun _ _ _ _ _ h => by cases h⟩
      go_wp2_with fail
      refine bodyPost_end (v := .tuple #[]) (by simp [results, Tryd.results37, go_sem]) rfl ⟨rfl, A', c', by rw [HE3.out]; exact HF.out, HK.out, by rw [HE3.out]; exact HAT.out⟩
theorem walk_any (w0 : World) : ∀ N, CW w0 N := by
  intro N
  induction N with
  | zero =>
    intro t A2 c2 A3 c3 A4 c4 p w g A c xs d ht hc
    exact hc.1.elim
  | succ N ih =>
    intro t A2 c2 A3 c3 A4 c4 p w g A c xs d ht hc hps hg hF hl
    obtain ⟨k1, k2, k3, k4, k5⟩ := hc.node
    rw [cntN] at hl
    rw [filesS]
    by_cases h1 : t.f0 = 1
    · rw [if_pos h1]
      exact walk_leaf w0 N t A2 c2 A3 c3 A4 c4 p w g A c xs h1 (formE_file k1 h1).2 hg hF (by omega)
    · rw [if_neg h1]
      exact walk_dir w0 N ih t A2 c2 A3 c3 A4 c4 p w g A c xs h1 ht k3 d k5 k4 hps (names_ent k2) hg hF (by omega) (by have := cnt_len N t.f4 hc.1.2.2.2.2.2; omega)
end Go.Proofs.YtfnofjcdaghniaaDoor.Tree
/- the reference's Files, walked. Own work; printed by gen_rg.py. -/
namespace Go.Proofs.YtfnofjcdaghniaaDoor.Tree
set_option linter.unusedVariables false
set_option linter.unusedSimpArgs false
open Go.RowKit Go.Proofs.YtfnofjcdaghniaaDoor.PL Go.Proofs.YtfnofjcdaghniaaDoor.Mt Go.Proofs.YtfnofjcdaghniaaDoorW.PrintWords Go.Proofs.YtfnofjcdaghniaaDoorW.PrintLast Go.Proofs.YtfnofjcdaghniaaDoorW.PrintMore
/-- a row of texts of one's own, by its header's box -/
structure FS (w0 wr : World) (g : Nat) (A : Option Addr) (c n : Nat) (ys : List ByteArray) : Prop where
  blk : wr.heap[g]? = some (.cells #[.slice A n c] 23 (0, 0))
  r : Kd.string.R 9 wr w0.heap.size (fun _ => True) (.slice A n c) ys
  bel : Below w0.heap.size w0 wr
theorem FS.len {w0 wr : World} {g : Nat} {A : Option Addr} {c n : Nat} {ys : List ByteArray} (h : FS w0 wr g A c n ys) : ys.length = n := (Kd.R_reads' h.r).1.symm
theorem FS.below {w0 wr w2 : World} {g : Nat} {A : Option Addr} {c n : Nat} {ys : List ByteArray} (h : FS w0 wr g A c n ys) (hb : Below wr.heap.size wr w2) : FS w0 w2 g A c n ys :=
  ⟨(hb.block _ (blk_lt h.blk)).trans h.blk, Kd.R_below h.r hb, below_then h.bel h.bel.size hb⟩
theorem FS.put {w0 wr : World} {g b c n : Nat} {ys : List ByteArray} (h : FS w0 wr g (some ⟨b, 0, none⟩) c n ys) (i : Nat) (x : ByteArray) : FS w0 (wr.setCell ⟨b, i, none⟩ (.string x)) g (some ⟨b, 0, none⟩) c n (ys.set i x) := by
  have hne : g ≠ b := fun e => Kd.R_ne h.r h.blk (by decide) (by rw [e]; rfl)
  exact ⟨blk_far h.blk hne _, Kd.R_putn h.r (i : Int) x, below_set h.bel (Kd.R_base h.r b rfl)⟩
theorem FS.cell {w0 wr : World} {g b c n : Nat} {ys : List ByteArray} (h : FS w0 wr g (some ⟨b, 0, none⟩) c n ys) {i : Nat} (hi : i < n) : wr.cell? ⟨b, i, none⟩ = some (.string (at_ ys i)) ∧ wr.frozen? ⟨b, i, none⟩ = false := by
  have h1 := Kd.R_celln ByteArray.empty h.r (i : Int) (by omega) (by omega)
  rw [Int.toNat_natCast] at h1
  refine ⟨h1.1.trans ?_, h1.2⟩
  rw [rdOf_nat]
set_option maxRecDepth 20000 in
set_option maxHeartbeats 4000000 in
theorem RFiles_any (N : Nat) (t : S26) (A2 : Option Addr) (c2 : Nat) (A3 : Option Addr) (c3 : Nat) (A4 : Option Addr) (c4 : Nat) (w : World) (ht : TR w t A2 c2 A3 c3 A4 c4) (hG : GT N t) :
    Calls Tryd.prog 18 #[TV t A2 c2 A3 c3 A4 c4] w fun e w' => ∃ A c, e = .returned (.slice A (FilesS N t).length c) ∧ (FilesS N t).length ≤ c ∧ Kd.string.C w' A (FilesS N t).length (FilesS N t) ∧ Below w.heap.size w w' := by
  have HT := Aside0.mk ht
  have HG := Aside0.mk hG
  clear ht hG
  have HX := Aside0.mk (heap_alloc_new w (.cells #[.int .i64 t.f0, .bool t.f1, .slice A2 t.f2.length c2, .slice A3 t.f3.length c3, .slice A4 t.f4.length c4] 26))
  have HB := Aside0.mk (below_alloc (Below.refl w.heap.size w) (.cells #[.int .i64 t.f0, .bool t.f1, .slice A2 t.f2.length c2, .slice A3 t.f3.length c3, .slice A4 t.f4.length c4] 26))
  go_enter Tryd.func18, Tryd.ntmps18
  go_upto_region 1 with fail
  generalize w.alloc (.cells #[.int .i64 t.f0, .bool t.f1, .slice A2 t.f2.length c2, .slice A3 t.f3.length c3, .slice A4 t.f4.length c4] 26) = w2 at *
  obtain ⟨a, ha⟩ : ∃ q, w.heap.size = q := ⟨_, rfl⟩
  rw [ha] at HX ⊢
  have HAA := Aside0.mk ha
  clear ha
  obtain ⟨x0, x1, x2, x3, x4⟩ := cells5 HX.out
  go_wp2_with fail
  clear x0 x1 x2 x3 x4
  refine (RCheck_any N t A2 c2 A3 c3 A4 c4 w2 (HT.out.below HB.out) HG.out).mono ?_
  rintro e w3 ⟨rfl, hb⟩
  have HX := Aside0.mk ((hb.block _ (blk_lt HX.out)).trans HX.out)
  have HB := Aside0.mk (below_then HB.out HB.out.size hb)
  clear hb
  obtain ⟨k, hk⟩ : ∃ q, (chk N t 1 0).1 = q := ⟨_, rfl⟩
  rw [hk]
  have HK := Aside0.mk hk
  clear hk
  by_cases hz : k = 0
  rotate_left
  · skip
    have HE : Aside0 (FilesS N t = []) := ⟨by unfold FilesS; rw [if_pos (by rw [HK.out]; exact hz)]⟩
    have hkb : (k != 0) = true := by simpa using hz
    clear hz
    go_wp2_with fail
    refine bodyPost_ret (v := .slice none 0 0) (by simp [results, Tryd.results18, go_sem]) rfl ?_
    rw [HE.out]
    exact ⟨none, 0, rfl, Nat.le_refl _, Kd.C_nil _ _, HAA.out ▸ HB.out⟩
  subst hz
  have HE : Aside0 (FilesS N t = sortS (filesS N t ⟨#[]⟩)) := ⟨by unfold FilesS; rw [if_neg (by rw [HK.out]; simp)]⟩
  have hz : ((0 : Int) != 0) = false := rfl
  go_upto_region 4 with fail
  have hal := below_alloc (Below.refl w3.heap.size w3) (.cells #[.slice none 0 0] 23)
  have HX := Aside0.mk (blk_alloc HX.out (.cells #[.slice none 0 0] 23))
  have HF : Aside0 (FL w3 (w3.alloc (.cells #[.slice none 0 0] 23)) w3.heap.size none 0 []) := ⟨⟨heap_alloc_new w3 (.cells #[.slice none 0 0] 23), Kd.R_nil _ _ _ _ _, hal⟩⟩
  have HBA := HB
  have HB := Aside0.mk (below_then HB.out HB.out.size hal)
  clear hal
  obtain ⟨g, hg⟩ : ∃ q, w3.heap.size = q := ⟨_, rfl⟩
  rw [hg] at HF ⊢
  have HLO : Aside0 (w3.heap.size ≤ g) := ⟨Nat.le_of_eq hg⟩
  clear hg
  generalize (w3.alloc (.cells #[.slice none 0 0] 23)) = w4 at *
  obtain ⟨x0, x1, x2, x3, x4⟩ := cells5 HX.out
  go_wp2_with fail
  clear x0 x1 x2 x3 x4
  have hs := filesS_le HG.out HK.out
  refine (walk_any w3 N t A2 c2 A3 c3 A4 c4 ⟨#[]⟩ w4 g none 0 [] 1 (HT.out.below HBA.out) ⟨HG.out, 0, by omega, HK.out⟩ (by show 0 ≤ _; omega) HLO.out HF.out (by show 0 + _ ≤ _; omega)).mono ?_
  obtain ⟨xs, hxs⟩ : ∃ q, filesS N t ⟨#[]⟩ = q := ⟨_, rfl⟩
  rw [hxs] at hs HE
  rw [hxs, List.nil_append]
  rintro e_ w5 ⟨rfl, B, c, hf, -, -⟩
  obtain ⟨n, hn⟩ : ∃ q, xs.length = q := ⟨_, rfl⟩
  have HFS : Aside0 (FS w3 w5 g B c n xs) := ⟨by subst hn; exact ⟨hf.blk, hf.r, hf.bel⟩⟩
  have hnl : n ≤ 65536 := by omega
  clear hf hs hxs hn HX HB HF
  go_wp2_with fail
  go_loopw [4] (fun v wr => ∃ (i : Nat) (ys : List ByteArray), v = .int .i64 (i : Int) ∧ 1 ≤ i ∧ (i ≤ n ∨ i = 1) ∧ Aside0 (ys.Perm xs) ∧ Aside0 (SrtP ys i) ∧ Aside0 (FS w3 wr g B c n ys)) (fun v _ => n + 1 - (intOf v).toNat)
  case atStart => exact ⟨1, xs, rfl, Nat.le_refl _, .inr rfl, ⟨List.Perm.refl _⟩, ⟨fun a b hab hb => absurd hb (by omega)⟩, HFS⟩
  case round =>
    clear HFS
    obtain ⟨i, ys, rfl, hi1, hi2, HP, HS, HF⟩ := hrel
    have hc0 : wr.cell? ⟨g, 0, none⟩ = some (.slice B n c) := (blk_cell HF.out.blk 0).trans rfl
    by_cases hlt : i < n
    · skip
      have hlt' : (i : Int) < (n : Int) := by omega
      have HFL : Aside0 (∃ b, B = some ⟨b, 0, none⟩) := ⟨by
        obtain ⟨b, cap, he, -⟩ := Kd.R_form HF.out.r (by rw [HF.out.len]; omega)
        exact ⟨b, (Value.slice.inj he).1⟩⟩
      obtain ⟨b, rfl⟩ := HFL.out
      clear HFL
      go_wp2_with fail
      clear hc0
      go_loopw [5] (fun v wr => ∃ (k : Nat) (zs : List ByteArray), v = .int .i64 (k : Int) ∧ k ≤ i ∧ Aside0 (zs.Perm xs) ∧ Aside0 (InsP zs i k) ∧ Aside0 (FS w3 wr g (some ⟨b, 0, none⟩) c n zs)) (fun v _ => (intOf v).toNat)
      case atStart => exact ⟨i, ys, rfl, Nat.le_refl _, HP, ⟨InsP.of HS.out⟩, HF⟩
      case round =>
        clear HP HS HF ys
        obtain ⟨k, zs, rfl, hk, HP, HS, HF⟩ := hrel
        by_cases hk0 : 0 < k
        · skip
          have hk0' : (0 : Int) < (k : Int) := by omega
          have hkn : (k : Int) < (n : Int) := by omega
          obtain ⟨j, hj⟩ : ∃ j, k = j + 1 := ⟨k - 1, by omega⟩
          have hjn : (j : Int) < (n : Int) := by omega
          obtain ⟨x1, hx1⟩ : ∃ q, at_ zs k = q := ⟨_, rfl⟩
          obtain ⟨x2, hx2⟩ : ∃ q, at_ zs (k - 1) = q := ⟨_, rfl⟩
          have HX12 := Aside0.mk (And.intro hx1 hx2)
          have hc0 : wr.cell? ⟨g, 0, none⟩ = some (.slice (some ⟨b, 0, none⟩) n c) := (blk_cell HF.out.blk 0).trans rfl
          obtain ⟨hck, hfk⟩ := HF.out.cell (show k < n by omega)
          obtain ⟨hcj, hfj⟩ := HF.out.cell (show k - 1 < n by omega)
          rw [hx1] at hck
          rw [hx2] at hcj
          clear hx1 hx2
          have hkj : k - 1 = j := by omega
          rw [hkj] at hcj hfj
          have hvj : (k : Int) - 1 = (j : Int) := by omega
          have HJ := Aside0.mk hj
          clear hj hkj
          cases hlt9 : Op.bytesLess x1.toList x2.toList with
          | false =>
            have HSR : Aside0 (SrtP zs (i + 1)) := ⟨InsP.stop HS.out hk0 hk (by rw [HX12.out.1, HX12.out.2]; exact hlt9)⟩
            go_upto_region 9 with fail
            go_quiet (fail)
            clear hc0 hck hfk hcj hfj
            have HF := Aside0.mk (HF.out.below (pw_below_drewN (Below.refl _ wr) nq))
            generalize (wr.drewN nq) = wr at *
            go_wp2_with fail
            exact ⟨⟨i + 1, zs, by go_num, by omega, .inl (by omega), HP, HSR, HF⟩, by simp [intOf]; omega⟩
          | true =>
            go_upto_region 9 with fail
            go_quiet (fail)
            clear hc0 hck hfk hcj hfj
            have HF := Aside0.mk (HF.out.below (pw_below_drewN (Below.refl _ wr) nq))
            generalize (wr.drewN nq) = wr at *
            have hc0 : wr.cell? ⟨g, 0, none⟩ = some (.slice (some ⟨b, 0, none⟩) n c) := (blk_cell HF.out.blk 0).trans rfl
            obtain ⟨hck, hfk⟩ := HF.out.cell (show k < n by omega)
            obtain ⟨hcj, hfj⟩ := HF.out.cell (show j < n by omega)
            have hkj : k - 1 = j := by have := HJ.out; omega
            rw [HX12.out.1] at hck
            have e2 : at_ zs j = x2 := by rw [← hkj]; exact HX12.out.2
            rw [e2] at hcj
            have HE2 := Aside0.mk e2
            have HKJ := Aside0.mk hkj
            clear e2 hkj
            have hwj : IntKind.i64.wrap (j : Int) = (j : Int) := by have h1 := hjn; have h2 := hnl; simp [IntKind.wrap, IntKind.bits, IntKind.signed]; omega
            go_upto_region 12 with fail
            go_still_tail 8, (by kernel_rfl)
            change wpList _ _ _ _ _ wr.drew
            have HF := Aside0.mk (HF.out.below (below_drew (Below.refl _ wr)))
            clear hc0 hck hfk hcj hfj
            generalize wr.drew = w6 at *
            have hck := (HF.out.cell (show k < n by omega)).1
            have hfk := (HF.out.cell (show k < n by omega)).2
            have HF7 := Aside0.mk (HF.out.put k x2)
            go_upto_region 13 with fail
            clear hck hfk HF
            generalize (w6.setCell ⟨b, k, none⟩ (.string x2)) = w7 at *
            have hc0 : w7.cell? ⟨g, 0, none⟩ = some (.slice (some ⟨b, 0, none⟩) n c) := (blk_cell HF7.out.blk 0).trans rfl
            have hcj := (HF7.out.cell (show j < n by omega)).1
            have hfj := (HF7.out.cell (show j < n by omega)).2
            have HF8 := Aside0.mk (HF7.out.put j x1)
            go_wp2_with fail
            clear hc0 hcj hfj HF7
            have hzl : k < zs.length := by
              have h9 := HF8.out.len
              rw [List.length_set, List.length_set] at h9
              omega
            refine ⟨⟨j, (zs.set k x2).set j x1, rfl, by omega, ⟨?_⟩, ⟨?_⟩, HF8⟩, by simp [intOf]; have := HJ.out; omega⟩
            · have h9 := swap_perm hk0 hzl
              rw [HX12.out.1, HX12.out.2, HKJ.out] at h9
              exact h9.trans HP.out
            · have h9 := InsP.swap HS.out hk0 hk (by have h8 := HF8.out.len; rw [List.length_set, List.length_set] at h8; omega) (by rw [HX12.out.1, HX12.out.2]; exact hlt9)
              rw [HX12.out.1, HX12.out.2, HKJ.out] at h9
              exact h9
        · skip
          have hk0 : k = 0 := by omega
          subst hk0
          have HSR : Aside0 (SrtP zs (i + 1)) := ⟨InsP.zero HS.out⟩
          have hd : decide ((0 : Int) < 0) = false := rfl
          go_upto_region 9 with fail
          go_quiet (fail)
          have HF := Aside0.mk (HF.out.below (pw_below_drewN (Below.refl _ wr) nq))
          generalize (wr.drewN nq) = wr at *
          go_wp2_with fail
          exact ⟨⟨i + 1, zs, by go_num, by omega, .inl (by omega), HP, HSR, HF⟩, by simp [intOf]; omega⟩
    · skip
      have hlt' : ¬ (i : Int) < (n : Int) := by omega
      have HEQ : Aside0 (ys = sortS xs) := ⟨by
        refine srt_sort (fun a b hab hb => ?_) HP.out
        rw [HF.out.len] at hb
        exact HS.out a b hab (by omega)⟩
      go_wp2_with fail
      refine bodyPost_ret (v := .slice B n c) (by simp [results, Tryd.results18, go_sem]) rfl ?_
      rw [HE.out, ← HEQ.out]
      obtain ⟨e1, e2, e3⟩ := Kd.R_reads' HF.out.r
      subst e1
      exact ⟨B, c, rfl, e2, e3, below_then HBA.out HBA.out.size HF.out.bel⟩
end Go.Proofs.YtfnofjcdaghniaaDoor.Tree
/- the files behind a put, as plain laws. Own work. -/
namespace Go.Proofs.YtfnofjcdaghniaaDoor.Tree
set_option linter.unusedVariables false
set_option linter.unusedSimpArgs false
open Go.RowKit Go.Proofs.YtfnofjcdaghniaaDoor.PL Go.Proofs.YtfnofjcdaghniaaDoor.Mt Go.Proofs.YtfnofjcdaghniaaDoorW.PrintWords Go.Proofs.YtfnofjcdaghniaaDoorW.PrintLast Go.Proofs.YtfnofjcdaghniaaDoorW.PrintMore
abbrev by_ (s : ByteArray) : List UInt8 := s.data.toList
theorem by_inj {a b : ByteArray} (h : by_ a = by_ b) : a = b := ByteArray.ext (Array.toList_inj.1 h)
theorem isE_ne {s : ByteArray} (h : isE s = true) : by_ s ≠ [] := by
  unfold isE at h
  simp only [Bool.and_eq_true, decide_eq_true_eq] at h
  intro e
  have h1 := h.1.1.1.1.1
  rw [← size_data, show s.data.toList = [] from e] at h1
  exact absurd h1 (by decide)
theorem isE_47 {s : ByteArray} (h : isE s = true) : ∀ c ∈ by_ s, c ≠ 47 := by
  unfold isE at h
  simp only [Bool.and_eq_true, decide_eq_true_eq] at h
  intro c hc e
  subst e
  obtain ⟨k, hk, he⟩ := List.getElem_of_mem hc
  have h1 := h.1.2
  have h2 := Lib.indexByte_ge s.data.toList 47
  exact Lib.indexByte_none (show Lib.indexByte s.data.toList 47 = -1 by omega) k (by rw [List.getElem?_eq_getElem hk, he])
/-- what stands ahead of an entry's name -/
def pre (p : ByteArray) : List UInt8 := if by_ p = [] then [] else by_ p ++ [47]
theorem und_by (p n : ByteArray) : by_ (und p n) = pre p ++ by_ n := by
  unfold und pre
  rw [toList_data]
  by_cases h : by_ p = []
  · rw [if_pos (by simp [h]), if_pos h]; rfl
  · rw [if_neg (by simpa using h), if_neg h]
    simp [by_, ByteArray.data_append]
theorem und_ne {p n : ByteArray} (h : isE n = true) : by_ (und p n) ≠ [] := by
  rw [und_by]
  intro e
  exact isE_ne h (List.append_eq_nil_iff.1 e).2
theorem mem_kidsF {f : S26 → ByteArray → List ByteArray} {p q : ByteArray} : ∀ {ns : List ByteArray} {us : List S26}, q ∈ kidsF f p ns us ↔ ∃ (j : Nat) (n : ByteArray) (u : S26), ns[j]? = some n ∧ us[j]? = some u ∧ q ∈ f u (und p n) := by
  intro ns
  induction ns with
  | nil => intro us; simp [kidsF]
  | cons n ns ih =>
    intro us
    cases us with
    | nil => simp [kidsF]
    | cons u us =>
      rw [kidsF, List.mem_append, ih]
      constructor
      · rintro (h | ⟨j, m, v, h1, h2, h3⟩)
        · exact ⟨0, n, u, rfl, rfl, h⟩
        · exact ⟨j + 1, m, v, by simpa using h1, by simpa using h2, h3⟩
      · rintro ⟨j, m, v, h1, h2, h3⟩
        cases j with
        | zero =>
          simp only [List.getElem?_cons_zero, Option.some.injEq] at h1 h2
          subst h1 h2
          exact .inl h3
        | succ j => exact .inr ⟨j, m, v, by simpa using h1, by simpa using h2, h3⟩
theorem files_fuel : ∀ (N M : Nat) (t : S26) (p : ByteArray), GT N t → GT M t → filesS N t p = filesS M t p := by
  intro N
  induction N with
  | zero => intro M t p h; exact h.elim
  | succ N ih =>
    intro M t p h k
    obtain ⟨M, rfl⟩ := GT_pos k
    rw [filesS, filesS]
    by_cases h1 : t.f0 = 1
    · rw [if_pos h1, if_pos h1]
    · rw [if_neg h1, if_neg h1]
      have key : ∀ (ns : List ByteArray) (us : List S26), (∀ u ∈ us, GT N u) → (∀ u ∈ us, GT M u) → kidsF (filesS N) p ns us = kidsF (filesS M) p ns us := by
        intro ns
        induction ns with
        | nil => intro us _ _; cases us <;> rfl
        | cons n ns ih2 =>
          intro us a b
          cases us with
          | nil => rfl
          | cons u us =>
            rw [kidsF, kidsF, ih2 us (fun v hv => a v (List.mem_cons_of_mem _ hv)) (fun v hv => b v (List.mem_cons_of_mem _ hv)), ih M u _ (a u (List.mem_cons_self ..)) (b u (List.mem_cons_self ..))]
      exact key t.f3 t.f4 h.2.2.2.2.2 k.2.2.2.2.2
/-- the place of names -/
def joinP (p : ByteArray) (l : List ByteArray) : ByteArray := l.foldl und p
theorem files_dir0 {N : Nat} {p : ByteArray} : filesS N dir0 p = [] := by
  cases N with
  | zero => rfl
  | succ N => rw [filesS, if_neg (by decide)]; rfl
/-- a file laid at a place: the files are those that were, and the place -/
theorem files_put : ∀ (l : List ByteArray) (N K : Nat) (t x r : S26) (p : ByteArray), GT N t → Okt N t → GT K r → putS l t x = (r, 0) → x.f0 = 1 →
    (∀ q, q ∈ filesS K r p → q ∈ filesS N t p ∨ q = joinP p l) ∧ joinP p l ∈ filesS K r p := by
  intro l
  induction l with
  | nil =>
    intro N K t x r p hG hO hK hp hx
    rw [putS] at hp
    obtain rfl := (Prod.mk.inj hp).1
    obtain ⟨K, rfl⟩ := GT_pos hK
    rw [filesS, if_pos hx]
    exact ⟨fun q hq => .inr (List.mem_singleton.1 hq), List.mem_singleton.2 rfl⟩
  | cons a l ih =>
    intro N K t x r p hG hO hK hp hx
    have h2 : t.f0 = 2 := by
      by_cases h : t.f0 = 2
      · exact h
      · rw [putS, if_pos h] at hp
        have := (Prod.mk.inj hp).2
        simp at this
    obtain ⟨hs, -⟩ := OktS hO
    have hL := OktL hO
    obtain ⟨N, rfl⟩ := GT_pos hG
    obtain ⟨K, rfl⟩ := GT_pos hK
    have ht1 : ¬ t.f0 = 1 := by omega
    cases hh : hasS t.f3 a with
    | true =>
      obtain ⟨ha1, ha2⟩ := has_get hh
      have hin : posS t.f3 a < t.f4.length := by omega
      obtain ⟨kid, hkid⟩ : ∃ q, t.f4.getD (posS t.f3 a) dir0 = q := ⟨_, rfl⟩
      have hk0 : t.f4[posS t.f3 a]? = some kid := by rw [← hkid, List.getD_eq_getElem?_getD, List.getElem?_eq_getElem hin]; rfl
      obtain ⟨⟨r1, k⟩, hr⟩ : ∃ q, putS l (t.f4.getD (posS t.f3 a) dir0) x = q := ⟨_, rfl⟩
      have hk : k = 0 := by
        by_cases hk : k = 0
        · exact hk
        · rw [putS_err_t h2 hh rfl hr hk] at hp; exact absurd (Prod.mk.inj hp).2 hk
      subst hk
      rw [putS_ok_t h2 hh rfl hr] at hp
      have he := (Prod.mk.inj hp).1
      subst he
      rw [hkid] at hr
      have hmem : kid ∈ t.f4 := List.mem_of_getElem? hk0
      have hr1 : (t.f4.set (posS t.f3 a) r1)[posS t.f3 a]? = some r1 := List.getElem?_set_self hin
      have hG1 : GT K r1 := hK.2.2.2.2.2 r1 (List.mem_of_getElem? hr1)
      have hOk : Okt N kid := hO.2.2.2 kid hmem
      obtain ⟨i1, i2⟩ := ih N K kid x r1 (und p a) (hG.2.2.2.2.2 kid hmem) hOk hG1 hr hx
      have hf3 : t.f3[posS t.f3 a]? = some a := by rw [List.getElem?_eq_getElem ha1, ha2]
      rw [filesS, if_neg (show ¬ t.f0 = 1 from ht1), filesS, if_neg ht1]
      constructor
      · intro q hq
        obtain ⟨j, n, u, h3, h4, h5⟩ := mem_kidsF.1 hq
        by_cases hj : j = posS t.f3 a
        · subst hj
          have e1 := h3.symm.trans hf3
          have e2 := h4.symm.trans hr1
          obtain rfl := Option.some.inj e1
          obtain rfl := Option.some.inj e2
          rcases i1 q h5 with h6 | h6
          · exact .inl (mem_kidsF.2 ⟨_, _, kid, hf3, hk0, h6⟩)
          · exact .inr h6
        · have h4' : t.f4[j]? = some u := by rw [← h4]; exact (List.getElem?_set_ne (fun e => hj e.symm)).symm
          refine .inl (mem_kidsF.2 ⟨j, n, u, h3, h4', ?_⟩)
          rw [files_fuel N K u _ (hG.2.2.2.2.2 u (List.mem_of_getElem? h4')) (hK.2.2.2.2.2 u (List.mem_of_getElem? h4))]
          exact h5
      · exact mem_kidsF.2 ⟨_, a, r1, hf3, hr1, i2⟩
    | false =>
      obtain ⟨⟨r1, k⟩, hr⟩ : ∃ q, putS l dir0 x = q := ⟨_, rfl⟩
      have hk : k = 0 := by
        by_cases hk : k = 0
        · exact hk
        · rw [putS_err_f h2 hh hr hk] at hp; exact absurd (Prod.mk.inj hp).2 hk
      subst hk
      rw [putS_ok_f h2 hh hr] at hp
      have he := (Prod.mk.inj hp).1
      subst he
      have hle := posS_le t.f3 a
      have hl3 : (t.f3.take (posS t.f3 a)).length = posS t.f3 a := by rw [List.length_take]; omega
      have hl4 : (t.f4.take (posS t.f3 a)).length = posS t.f3 a := by rw [List.length_take]; omega
      have g3 : (t.f3.take (posS t.f3 a) ++ a :: t.f3.drop (posS t.f3 a))[posS t.f3 a]? = some a := by rw [List.getElem?_append_right (by omega), hl3, Nat.sub_self]; rfl
      have g4 : (t.f4.take (posS t.f3 a) ++ r1 :: t.f4.drop (posS t.f3 a))[posS t.f3 a]? = some r1 := by rw [List.getElem?_append_right (by omega), hl4, Nat.sub_self]; rfl
      have hG1 : GT K r1 := hK.2.2.2.2.2 r1 (List.mem_of_getElem? g4)
      obtain ⟨i1, i2⟩ := ih 1 K dir0 x r1 (und p a) GT_dir0 Okt_dir0 hG1 hr hx
      rw [filesS, if_neg (show ¬ t.f0 = 1 from ht1), filesS, if_neg ht1]
      constructor
      · intro q hq
        obtain ⟨j, n, u, h3, h4, h5⟩ := mem_kidsF.1 hq
        have h3' : (t.f3.take (posS t.f3 a) ++ a :: t.f3.drop (posS t.f3 a))[j]? = some n := h3
        have h4' : (t.f4.take (posS t.f3 a) ++ r1 :: t.f4.drop (posS t.f3 a))[j]? = some u := h4
        have old : ∀ i, t.f3[i]? = some n → t.f4[i]? = some u → q ∈ kidsF (filesS N) p t.f3 t.f4 := fun i e3 e4 => by
          refine mem_kidsF.2 ⟨i, n, u, e3, e4, ?_⟩
          rw [files_fuel N K u _ (hG.2.2.2.2.2 u (List.mem_of_getElem? e4)) (hK.2.2.2.2.2 u (List.mem_of_getElem? h4'))]
          exact h5
        rcases Nat.lt_trichotomy j (posS t.f3 a) with hj | hj | hj
        · rw [List.getElem?_append_left (by omega), List.getElem?_take, if_pos hj] at h3' h4'
          exact .inl (old j h3' h4')
        · subst hj
          have e1 := h3'.symm.trans g3
          have e2 := h4'.symm.trans g4
          obtain rfl := Option.some.inj e1
          obtain rfl := Option.some.inj e2
          rcases i1 q h5 with h6 | h6
          · rw [files_dir0] at h6; cases h6
          · exact .inr h6
        · rw [List.getElem?_append_right (by omega), hl3, show j - posS t.f3 a = (j - posS t.f3 a - 1) + 1 by omega, List.getElem?_cons_succ, List.getElem?_drop] at h3'
          rw [List.getElem?_append_right (by omega), hl4, show j - posS t.f3 a = (j - posS t.f3 a - 1) + 1 by omega, List.getElem?_cons_succ, List.getElem?_drop] at h4'
          exact .inl (old _ h3' h4')
      · exact mem_kidsF.2 ⟨_, a, r1, g3, g4, i2⟩
/-- names with slashes between -/
def joinL : List (List UInt8) → List UInt8
  | [] => []
  | [a] => a
  | a :: b :: l => a ++ 47 :: joinL (b :: l)
theorem joinL_scan : ∀ (L acc : List UInt8), joinL (scanL L acc) = acc ++ L := by
  intro L
  induction L with
  | nil => intro acc; simp [scanL, joinL]
  | cons c r ih =>
    intro acc
    rw [scanL]
    by_cases h : c = 47
    · rw [if_pos h, h]
      have h1 := ih []
      obtain ⟨b, l, hb⟩ : ∃ b l, scanL r [] = b :: l := by
        cases hs : scanL r [] with
        | nil =>
          exfalso
          cases r with
          | nil => simp [scanL] at hs
          | cons d r =>
            rw [hs] at h1
            simp [joinL] at h1
        | cons b l => exact ⟨b, l, rfl⟩
      rw [hb] at h1 ⊢
      rw [joinL, h1]; simp
    · rw [if_neg h, ih]; simp
theorem joinP_by : ∀ (l : List ByteArray) (p : ByteArray), by_ p ≠ [] → by_ (joinP p l) = joinL (by_ p :: l.map by_) := by
  intro l
  induction l with
  | nil => intro p _; rfl
  | cons a l ih =>
    intro p hp
    show by_ (joinP (und p a) l) = _
    have e : by_ (und p a) = by_ p ++ 47 :: by_ a := by rw [und_by, pre, if_neg hp]; simp
    rw [ih (und p a) (by rw [e]; simp), e, List.map_cons]
    cases l with
    | nil => simp [joinL]
    | cons b l => simp [joinL]
theorem parts_join {s : ByteArray} (h : (partsS s).all isE = true) : joinP ⟨#[]⟩ (partsS s) = s := by
  by_cases h0 : s.size = 0
  · have e : partsS s = [] := by unfold partsS; rw [if_pos h0]
    rw [e]
    refine by_inj ?_
    show ([] : List UInt8) = by_ s
    exact (List.eq_nil_of_length_eq_zero (by rw [size_data]; exact h0)).symm
  · have h1 : (partsS s).map (fun b => b.data.toList) = scanL s.data.toList [] := by
      unfold partsS
      rw [if_neg h0]
      exact split_scan _ s rfl
    cases hl : partsS s with
    | nil =>
      rw [hl] at h1
      have h2 := joinL_scan s.data.toList []
      rw [← h1] at h2
      have : s.size = 0 := by rw [← size_data]; simp [joinL] at h2; simp [h2]
      exact absurd this h0
    | cons a l =>
      rw [hl] at h h1
      have ha : isE a = true := List.all_eq_true.1 h a (List.mem_cons_self ..)
      refine by_inj ?_
      show by_ (joinP (und ⟨#[]⟩ a) l) = _
      have e : by_ (und ⟨#[]⟩ a) = by_ a := by rw [und_by, pre, if_pos rfl]; rfl
      rw [joinP_by l _ (und_ne ha), e]
      have h2 := joinL_scan s.data.toList []
      rw [← h1] at h2
      exact h2
/-- every file's place begins with its tree's -/
theorem files_pre : ∀ (N : Nat) (t : S26) (p q : ByteArray) (d : Nat), CHK N d t → by_ p ≠ [] → q ∈ filesS N t p → ∃ s, by_ q = by_ p ++ s ∧ (s = [] ∨ ∃ s', s = 47 :: s') := by
  intro N
  induction N with
  | zero => intro t p q d h; exact h.1.elim
  | succ N ih =>
    intro t p q d h hp hq
    obtain ⟨k1, k2, k3, k4, k5⟩ := h.node
    rw [filesS] at hq
    by_cases h1 : t.f0 = 1
    · rw [if_pos h1] at hq
      obtain rfl := List.mem_singleton.1 hq
      exact ⟨[], by simp, .inl rfl⟩
    · rw [if_neg h1] at hq
      obtain ⟨j, n, u, e1, e2, e3⟩ := mem_kidsF.1 hq
      have hn := names_ent k2 n (List.mem_of_getElem? e1)
      obtain ⟨s, hs, -⟩ := ih u (und p n) q (d + 1) (k5 u (List.mem_of_getElem? e2)) (und_ne hn) e3
      refine ⟨47 :: (by_ n ++ s), ?_, .inr ⟨_, rfl⟩⟩
      rw [hs, und_by, pre, if_neg hp]; simp
theorem take_47 {n s : List UInt8} (hn : ∀ c ∈ n, c ≠ 47) (hs : s = [] ∨ ∃ s', s = 47 :: s') : (n ++ s).takeWhile (fun c => c != 47) = n := by
  induction n with
  | nil =>
    rcases hs with rfl | ⟨s', rfl⟩
    · rfl
    · simp
  | cons c n ih =>
    have hc : (c != 47) = true := by simpa using hn c (List.mem_cons_self ..)
    rw [List.cons_append, List.takeWhile_cons, if_pos hc, ih (fun d hd => hn d (List.mem_cons_of_mem _ hd))]
theorem files_nodup : ∀ (N : Nat) (t : S26) (p : ByteArray) (d : Nat), CHK N d t → (filesS N t p).Nodup := by
  intro N
  induction N with
  | zero => intro t p d h; exact h.1.elim
  | succ N ih =>
    intro t p d h
    obtain ⟨k1, k2, k3, k4, k5⟩ := h.node
    rw [filesS]
    by_cases h1 : t.f0 = 1
    · rw [if_pos h1]; simp
    · rw [if_neg h1]
      have key : ∀ (ns : List ByteArray) (us : List S26), Srt ns → (∀ n ∈ ns, isE n = true) → (∀ u ∈ us, CHK N (d + 1) u) → (kidsF (filesS N) p ns us).Nodup := by
        intro ns
        induction ns with
        | nil => intro us _ _ _; cases us <;> simp [kidsF]
        | cons n ns ih2 =>
          intro us hs he hc
          cases us with
          | nil => simp [kidsF]
          | cons u us =>
            rw [kidsF]
            have hs2 := List.pairwise_cons.1 hs
            refine List.nodup_append.2 ⟨ih u _ (d + 1) (hc u (List.mem_cons_self ..)), ih2 us hs2.2 (fun m hm => he m (List.mem_cons_of_mem _ hm)) (fun v hv => hc v (List.mem_cons_of_mem _ hv)), fun a ha b hb hab => ?_⟩
            subst hab
            obtain ⟨j, m, v, e1, e2, e3⟩ := mem_kidsF.1 hb
            have hmm := List.mem_of_getElem? e1
            have hn := he n (List.mem_cons_self ..)
            have hm := he m (List.mem_cons_of_mem _ hmm)
            obtain ⟨s1, q1, t1⟩ := files_pre N u (und p n) a (d + 1) (hc u (List.mem_cons_self ..)) (und_ne hn) ha
            obtain ⟨s2, q2, t2⟩ := files_pre N v (und p m) a (d + 1) (hc v (List.mem_cons_of_mem _ (List.mem_of_getElem? e2))) (und_ne hm) e3
            rw [q1, und_by, und_by, List.append_assoc, List.append_assoc] at q2
            have q3 := List.append_cancel_left q2
            have q4 := take_47 (isE_47 hn) t1
            rw [q3, take_47 (isE_47 hm) t2] at q4
            have hlt := hs2.1 m hmm
            rw [by_inj q4, ltB_irrefl] at hlt
            cases hlt
      exact key t.f3 t.f4 (names_srt k2) (names_ent k2) k5
/-- TreeFound's plain law -/
theorem found_law {N M : Nat} {t x r : S26} {p : ByteArray} {K : Nat} (hK : N + M + (partsS p).length + 1 = K) (hG : GT N t) (hGr : GT K r) (h : PutS N M t p x = (r, 0)) (hx : x.f0 = 1) :
    (∀ q ∈ FilesS K r, q ∈ FilesS N t ∨ q = p) ∧ p ∈ FilesS K r ∧ Ord (FilesS K r) ∧ (FilesS K r).Nodup := by
  obtain ⟨h1, h2, h3, h4, h5⟩ := PutS_inv h
  rw [hK] at h5
  have e1 : FilesS N t = sortS (filesS N t ⟨#[]⟩) := by unfold FilesS; rw [if_neg (by simpa using h1)]
  have e2 : FilesS K r = sortS (filesS K r ⟨#[]⟩) := by unfold FilesS; rw [if_neg (by simpa using h5)]
  obtain ⟨i1, i2⟩ := files_put (partsS p) N K t x r ⟨#[]⟩ hG (chk_okt N t 1 0 hG (by omega) h1) hGr h4 hx
  rw [parts_join h3] at i1 i2
  rw [e1, e2]
  refine ⟨fun q hq => ?_, (sortS_perm _).mem_iff.2 i2, sortS_ord _, (sortS_perm _).nodup_iff.2 (files_nodup K r ⟨#[]⟩ 1 ⟨hGr, 0, by omega, h5⟩)⟩
  rcases i1 q ((sortS_perm _).mem_iff.1 hq) with h6 | h6
  · exact .inl ((sortS_perm _).mem_iff.2 h6)
  · exact .inr h6
end Go.Proofs.YtfnofjcdaghniaaDoor.Tree
