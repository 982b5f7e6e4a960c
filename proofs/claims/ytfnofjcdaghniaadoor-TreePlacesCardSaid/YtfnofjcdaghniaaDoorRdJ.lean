/- tree.At, walked. Own work; printed by gen_at.py. -/
import Derived.Test.YtfnofjcdaghniaaDoorKnJ
import Derived.Test.YtfnofjcdaghniaaDoorMt15
import Derived.Test.YtfnofjcdaghniaaDoorRfQ
namespace Go.Proofs.YtfnofjcdaghniaaDoor.Tree
set_option linter.unusedVariables false
set_option linter.unusedSimpArgs false
open Go.RowKit Go.Proofs.YtfnofjcdaghniaaDoor.PL Go.Proofs.YtfnofjcdaghniaaDoor.Mt Go.Proofs.YtfnofjcdaghniaaDoorW.PrintWords Go.Proofs.YtfnofjcdaghniaaDoorW.PrintLast Go.Proofs.YtfnofjcdaghniaaDoorW.PrintMore
/-- At behind the names, as a plain function -/
def atS : List ByteArray → S26 → S26 × Int
  | [], t => (t, 0)
  | n :: l, t => if hasS t.f3 n = true then atS l (t.f4.getD (posS t.f3 n) dir0) else (z0, 7)
noncomputable def AtS (N : Nat) (t : S26) (p : ByteArray) : S26 × Int :=
  if (chk N t 1 0).1 ≠ 0 then (z0, (chk N t 1 0).1) else if (partsS p).all isE = false then (z0, 9) else atS (partsS p) t
/-- two boxes -/
structure AW (w wr : World) (a c : Nat) (oa oc : Array Value) : Prop where
  ba : wr.heap[a]? = some (.cells oa 26 (0, 0))
  bc : wr.heap[c]? = some (.cells oc 26 (0, 0))
  ne : a ≠ c
  lo : w.heap.size ≤ a ∧ w.heap.size ≤ c
  bel : Below w.heap.size w wr
theorem AW.step {w wr w2 : World} {a c : Nat} {oa oc : Array Value} (h : AW w wr a c oa oc) (hb : Below wr.heap.size wr w2) : AW w w2 a c oa oc :=
  ⟨(hb.block _ (blk_lt h.ba)).trans h.ba, (hb.block _ (blk_lt h.bc)).trans h.bc, h.ne, h.lo, below_then h.bel h.bel.size hb⟩
theorem AW.setc {w wr : World} {a c : Nat} {oa : Array Value} {a0 b0 c0 d0 e0 : Value} (h : AW w wr a c oa #[a0, b0, c0, d0, e0]) (x0 x1 x2 x3 x4 : Value) :
    AW w (((((wr.setCell ⟨c, 0, none⟩ x0).setCell ⟨c, 1, none⟩ x1).setCell ⟨c, 2, none⟩ x2).setCell ⟨c, 3, none⟩ x3).setCell ⟨c, 4, none⟩ x4) a c oa #[x0, x1, x2, x3, x4] :=
  ⟨(box_far h.ne _ _ _ _ _).trans h.ba, box_same h.bc _ _ _ _ _, h.ne, h.lo, box_below h.bel h.lo.2 _ _ _ _ _⟩
theorem AW.seta {w wr : World} {a c : Nat} {oc : Array Value} {a0 b0 c0 d0 e0 : Value} (h : AW w wr a c #[a0, b0, c0, d0, e0] oc) (x0 x1 x2 x3 x4 : Value) :
    AW w (((((wr.setCell ⟨a, 0, none⟩ x0).setCell ⟨a, 1, none⟩ x1).setCell ⟨a, 2, none⟩ x2).setCell ⟨a, 3, none⟩ x3).setCell ⟨a, 4, none⟩ x4) a c #[x0, x1, x2, x3, x4] oc :=
  ⟨box_same h.ba _ _ _ _ _, (box_far h.ne.symm _ _ _ _ _).trans h.bc, h.ne, h.lo, box_below h.bel h.lo.1 _ _ _ _ _⟩
theorem AW.enter (w : World) (t : S26) (A2 : Option Addr) (c2 : Nat) (A3 : Option Addr) (c3 : Nat) (A4 : Option Addr) (c4 : Nat) :
    AW w ((w.alloc (bx t A2 c2 A3 c3 A4 c4)).alloc (.cells #[.int .i64 0, .bool false, .slice none 0 0, .slice none 0 0, .slice none 0 0] 26)) w.heap.size (w.heap.size + 1) #[.int .i64 t.f0, .bool t.f1, .slice A2 t.f2.length c2, .slice A3 t.f3.length c3, .slice A4 t.f4.length c4] #[.int .i64 0, .bool false, .slice none 0 0, .slice none 0 0, .slice none 0 0] := by
  obtain ⟨w1, hw1⟩ : ∃ q, w.alloc (bx t A2 c2 A3 c3 A4 c4) = q := ⟨_, rfl⟩
  have h1 : Below w.heap.size w w1 := hw1 ▸ below_alloc (Below.refl _ w) _
  have z1 : w1.heap.size = w.heap.size + 1 := by rw [← hw1]; simp
  have k1 : w1.heap[w.heap.size]? = some (bx t A2 c2 A3 c3 A4 c4) := hw1 ▸ heap_alloc_new w _
  have k2 := heap_alloc_new w1 (.cells #[.int .i64 0, .bool false, .slice none 0 0, .slice none 0 0, .slice none 0 0] 26)
  rw [z1] at k2
  rw [hw1]
  exact ⟨blk_alloc k1 _, k2, by omega, by omega, below_alloc h1 _⟩
theorem OktS {N : Nat} {t : S26} (h : Okt N t) : Srt t.f3 ∧ t.f3.length ≤ 1000000 := by
  cases N with
  | zero => exact h.elim
  | succ N => exact ⟨h.2.1, by have := h.2.2.1; omega⟩
theorem OktL {N : Nat} {t : S26} (h : Okt N t) : t.f3.length = t.f4.length := by
  cases N with
  | zero => exact h.elim
  | succ N => exact h.1
theorem Okt_mono : ∀ {N M : Nat} {t : S26}, Okt N t → N ≤ M → Okt M t := by
  intro N
  induction N with
  | zero => intro M t h; exact h.elim
  | succ N ih =>
    intro M t h hm
    cases M with
    | zero => omega
    | succ M => exact ⟨h.1, h.2.1, h.2.2.1, fun a ha => ih (h.2.2.2 a ha) (by omega)⟩
theorem Okt_kid {N : Nat} {t u : S26} (h : Okt N t) (hu : u ∈ t.f4) : Okt N u := by
  cases N with
  | zero => exact h.elim
  | succ N => exact Okt_mono (h.2.2.2 u hu) (by omega)
theorem GT_kid {N : Nat} {t u : S26} (h : GT N t) (hu : u ∈ t.f4) : GT N u := by
  cases N with
  | zero => exact h.elim
  | succ N => exact GT_mono (h.2.2.2.2.2 u hu) (by omega)
theorem C_set {w : World} {A : Option Addr} {l : List ByteArray} {p : Addr} {u : Value} (v : Value) (h : Kd.string.C w A l.length l) (hp : w.cell? p = some u) (hu : ∀ s, u ≠ .string s) : Kd.string.C (w.setCell p v) A l.length l := by
  obtain ⟨h1, h2, h3⟩ := h
  refine ⟨h1, h2, fun h0 => ?_⟩
  obtain ⟨ad, e, hc⟩ := h3 h0
  refine ⟨ad, e, fun j q hq => ?_⟩
  obtain ⟨c, g1, g2, g3⟩ := hc j q hq
  refine ⟨c, g1, g2, fun i x hx => ?_⟩
  have g4 := g3 i x hx
  rw [World.cell?_setCell_other _ _ _ _ (fun e => ?_)]
  · exact g4
  · rw [← e, hp] at g4
    have hcq : c = [.string q] := g2
    rw [hcq] at hx
    cases i with
    | zero => simp at hx; subst hx; exact hu q (Option.some.inj g4)
    | succ i => simp at hx
theorem CS_box {w : World} {A : Option Addr} {l : List ByteArray} {a : Nat} {k : Int} {b : Bool} {P2 : Option Addr} {n2 d2 : Nat} {P3 : Option Addr} {n3 d3 : Nat} {P4 : Option Addr} {n4 d4 : Nat} (h : Kd.string.C w A l.length l)
    (ha : w.heap[a]? = some (.cells #[.int .i64 k, .bool b, .slice P2 n2 d2, .slice P3 n3 d3, .slice P4 n4 d4] 26 (0, 0))) (v0 v1 v2 v3 v4 : Value) :
    Kd.string.C (((((w.setCell ⟨a, 0, none⟩ v0).setCell ⟨a, 1, none⟩ v1).setCell ⟨a, 2, none⟩ v2).setCell ⟨a, 3, none⟩ v3).setCell ⟨a, 4, none⟩ v4) A l.length l := by
  have b1 := blk_set ha 0 v0
  have b2 := blk_set b1 1 v1
  have b3 := blk_set b2 2 v2
  have b4 := blk_set b3 3 v3
  have s1 := C_set v0 h ((blk_cell ha 0).trans rfl) (fun s => by simp)
  have s2 := C_set v1 s1 ((blk_cell b1 1).trans rfl) (fun s => by simp)
  have s3 := C_set v2 s2 ((blk_cell b2 2).trans rfl) (fun s => by simp)
  have s4 := C_set v3 s3 ((blk_cell b3 3).trans rfl) (fun s => by simp)
  exact C_set v4 s4 ((blk_cell b4 4).trans rfl) (fun s => by simp)
set_option maxRecDepth 20000 in
set_option maxHeartbeats 8000000 in
theorem At_any (N : Nat) (t : S26) (A2 : Option Addr) (c2 : Nat) (A3 : Option Addr) (c3 : Nat) (A4 : Option Addr) (c4 : Nat) (place : ByteArray) (w : World)
    (ht : TR w t A2 c2 A3 c3 A4 c4) (hGt : GT N t) (hg : G0 w) (hp : place.size ≤ 999999) :
    Calls Tryd.prog 19 #[TV t A2 c2 A3 c3 A4 c4, .string place] w (PutQ w (AtS N t place)) := by
  have HT := Aside0.mk (And.intro ht (And.intro hg (show place.size ≤ 1000000 by omega)))
  have HG := Aside0.mk hGt
  clear ht hGt hg hp
  have HW := Aside0.mk (AW.enter w t A2 c2 A3 c3 A4 c4)
  go_enter Tryd.func19, Tryd.ntmps19
  go_upto_region 1 with fail
  generalize ((w.alloc (bx t A2 c2 A3 c3 A4 c4)).alloc (.cells #[.int .i64 0, .bool false, .slice none 0 0, .slice none 0 0, .slice none 0 0] 26)) = w3 at *
  obtain ⟨a, ha⟩ : ∃ q, w.heap.size = q := ⟨_, rfl⟩
  rw [ha] at HW ⊢
  clear ha
  obtain ⟨c, hc⟩ : ∃ q, a + 1 = q := ⟨_, rfl⟩
  rw [hc] at HW ⊢
  clear hc
  obtain ⟨x0, x1, x2, x3, x4⟩ := cells5 HW.out.ba
  go_wp2_with fail
  clear x0 x1 x2 x3 x4
  refine (Check_any N t A2 c2 A3 c3 A4 c4 w3 (HT.out.1.below HW.out.bel) HG.out).mono ?_
  rintro e w4 ⟨rfl, hb⟩
  have HW := Aside0.mk (HW.out.step hb)
  clear hb
  obtain ⟨k1, hk1⟩ : ∃ q, (chk N t 1 0).1 = q := ⟨_, rfl⟩
  rw [hk1]
  have HK1 := Aside0.mk hk1
  clear hk1
  by_cases hz : k1 = 0
  rotate_left
  · skip
    have hkb : (k1 != 0) = true := by simpa using hz
    have HP := Aside0.mk (show AtS N t place = (z0, k1) from by unfold AtS; rw [HK1.out, if_pos hz])
    obtain ⟨b0, b1, b2, b3, b4⟩ := cells5 HW.out.bc
    have f0 := blk_frozen HW.out.bc 0
    have f1 := blk_frozen HW.out.bc 1
    have f2 := blk_frozen HW.out.bc 2
    have f3 := blk_frozen HW.out.bc 3
    have f4 := blk_frozen HW.out.bc 4
    have HF := Aside0.mk (HW.out.setc (.int .i64 0) (.bool false) (.slice none 0 0) (.slice none 0 0) (.slice none 0 0))
    clear hz
    go_wp2_with fail
    refine bodyPost_ret (results_c1 rfl _ _ c 26 _ (0, 0) _ rfl HF.out.bc Tryd.underlying26 rfl (by kernel_rfl)) rfl ?_
    exact PutQ.zero HP.out HF.out.bel
  subst hz
  go_wp2_with fail
  refine (parts_any place w4 (HT.out.2.1.below HW.out.bel) HT.out.2.2).mono ?_
  rintro e w6 ⟨LA, lc, rfl, hlc, hC, hb⟩
  have HW := Aside0.mk (HW.out.step hb)
  clear hb
  obtain ⟨l, hl⟩ : ∃ q, partsS place = q := ⟨_, rfl⟩
  obtain ⟨ok, hok⟩ : ∃ q, l.all isE = q := ⟨_, rfl⟩
  have hll : l.length ≤ 1000001 := by rw [← hl]; exact partsS_len place HT.out.2.2
  rw [hl] at hlc hC ⊢
  rw [hok]
  have HL := Aside0.mk (And.intro hl hok)
  have HC := Aside0.mk (And.intro hC hlc)
  clear hl hok hC hlc
  cases ok with
  | false =>
    have HP := Aside0.mk (show AtS N t place = (z0, 9) from by unfold AtS; rw [HK1.out, if_neg (by simp), HL.out.1, if_pos HL.out.2])
    obtain ⟨b0, b1, b2, b3, b4⟩ := cells5 HW.out.bc
    have f0 := blk_frozen HW.out.bc 0
    have f1 := blk_frozen HW.out.bc 1
    have f2 := blk_frozen HW.out.bc 2
    have f3 := blk_frozen HW.out.bc 3
    have f4 := blk_frozen HW.out.bc 4
    have HF := Aside0.mk (HW.out.setc (.int .i64 0) (.bool false) (.slice none 0 0) (.slice none 0 0) (.slice none 0 0))
    go_wp2_with fail
    refine bodyPost_ret (results_c1 rfl _ _ c 26 _ (0, 0) _ rfl HF.out.bc Tryd.underlying26 rfl (by kernel_rfl)) rfl ?_
    exact PutQ.zero HP.out HF.out.bel
  | true =>
    have HAT : Aside0 (AtS N t place = atS l t) := ⟨by unfold AtS; rw [HK1.out, if_neg (by simp), HL.out.1, if_neg (by rw [HL.out.2]; simp)]⟩
    have HO : Aside0 (Okt N t) := ⟨chk_okt N t 1 0 HG.out (by omega) HK1.out⟩
    go_wp2_with fail
    go_loopw [29] (fun v wr => ∃ (k : Nat) (u : S26) (B2 : Option Addr) (d2 : Nat) (B3 : Option Addr) (d3 : Nat) (B4 : Option Addr) (d4 : Nat), v = .int .i64 (k : Int) ∧ k ≤ l.length ∧ Aside0 (atS l t = atS (l.drop k) u) ∧ Aside0 (TR w u B2 d2 B3 d3 B4 d4) ∧ Aside0 (GT N u) ∧ Aside0 (Okt N u) ∧ Aside0 (Below w6.heap.size w6 wr ∨ True) ∧ Aside0 (Kd.string.C wr LA l.length l) ∧ Aside0 (AW w wr a c #[.int .i64 u.f0, .bool u.f1, .slice B2 u.f2.length d2, .slice B3 u.f3.length d3, .slice B4 u.f4.length d4] #[.int .i64 0, .bool false, .slice none 0 0, .slice none 0 0, .slice none 0 0])) (fun v _ => l.length - (intOf v).toNat)
    case atStart => exact ⟨0, t, A2, c2, A3, c3, A4, c4, rfl, Nat.zero_le _, ⟨rfl⟩, ⟨HT.out.1⟩, HG, HO, ⟨.inr trivial⟩, ⟨HC.out.1⟩, HW⟩
    case round =>
      clear HW HO
      obtain ⟨k, u, B2, d2, B3, d3, B4, d4, rfl, hk, HE, HTU, HGU, HOU, -, HCL, HW⟩ := hrel
      by_cases hlt : k < l.length
      · skip
        obtain ⟨ad, hA, hcn⟩ := Kd.at_string HCL.out (k : Int) (by omega) (by omega)
        obtain ⟨nm, hnm⟩ : ∃ x, rdOf ByteArray.empty l (k : Int) = x := ⟨_, rfl⟩
        have hne : l[k] = nm := by rw [← hnm, rdB hlt]
        rw [hnm, Int.toNat_natCast] at hcn
        subst hA
        have HE2 : Aside0 (atS l t = atS (nm :: l.drop (k + 1)) u) := ⟨by rw [HE.out, List.drop_eq_getElem_cons hlt, hne]⟩
        clear hne hnm HE
        obtain ⟨x0, x1, x2, x3, x4⟩ := cells5 HW.out.ba
        go_wp2_with fail
        clear hcn x0 x1 x2 x3 x4
        refine (bs_any B3 d3 wr (OktS HOU.out).1 (OktS HOU.out).2 (Kd.C_below HTU.out.2.2.2.1 HW.out.bel) HTU.out.2.2.1).mono ?_
        rintro e w7 ⟨rfl, hd⟩
        obtain ⟨dn, rfl⟩ := hd
        have hdr := pw_below_drewN (Below.refl wr.heap.size wr) dn
        have HW := Aside0.mk (HW.out.step hdr)
        have HCL := Aside0.mk (Kd.C_below HCL.out hdr)
        clear hdr
        generalize wr.drewN dn = w8 at *
        obtain ⟨i, hi⟩ : ∃ q, posS u.f3 nm = q := ⟨_, rfl⟩
        obtain ⟨h, hh⟩ : ∃ q, hasS u.f3 nm = q := ⟨_, rfl⟩
        rw [hi, hh]
        have HI := Aside0.mk (And.intro hi hh)
        clear hi hh
        cases h with
        | false =>
          have HP := Aside0.mk (show AtS N t place = (z0, 7) from by rw [HAT.out, HE2.out, atS, if_neg (by rw [HI.out.2]; simp)])
          obtain ⟨b0, b1, b2, b3, b4⟩ := cells5 HW.out.bc
          have f0 := blk_frozen HW.out.bc 0
          have f1 := blk_frozen HW.out.bc 1
          have f2 := blk_frozen HW.out.bc 2
          have f3 := blk_frozen HW.out.bc 3
          have f4 := blk_frozen HW.out.bc 4
          have HF := Aside0.mk (HW.out.setc (.int .i64 0) (.bool false) (.slice none 0 0) (.slice none 0 0) (.slice none 0 0))
          go_wp2_with fail
          refine bodyPost_ret (results_c1 rfl _ _ c 26 _ (0, 0) _ rfl HF.out.bc Tryd.underlying26 rfl (by kernel_rfl)) rfl ?_
          exact PutQ.zero HP.out HF.out.bel
        | true =>
          have hil : i < u.f4.length := by
            have h1 := HI.out.1
            have h2 := HI.out.2
            have h3 := OktL HOU.out
            unfold hasS at h2
            rw [h1] at h2
            have := (List.getElem?_eq_some_iff.1 (of_decide_eq_true h2)).1
            omega
          obtain ⟨ad4, C2, q2, C3, q3, C4, q4, hA4, e0, e1, e2_, e3_, e4_, r1, r2, r3, r4, r5, r6⟩ := at_T26 HTU.out.2.2.2.2.2 (i : Int) (by omega) (by omega)
          obtain ⟨v, hv⟩ : ∃ x, rd_T26 u.f4 (i : Int) = x := ⟨_, rfl⟩
          have hve : u.f4[i] = v := by rw [← hv, rdT hil]
          rw [hv] at e0 e1 e2_ e3_ e4_ r1 r2 r3 r4 r5 r6
          rw [Int.toNat_natCast] at e0 e1 e2_ e3_ e4_
          have HTV : Aside0 (TR w v C2 q2 C3 q3 C4 q4) := ⟨⟨r1, r2, r3, r4, r5, r6⟩⟩
          have HV : Aside0 (u.f4.getD i dir0 = v) := ⟨by rw [List.getD_eq_getElem?_getD, List.getElem?_eq_getElem hil]; exact hve⟩
          have hvm : v ∈ u.f4 := hve ▸ List.getElem_mem hil
          have HGV : Aside0 (GT N v) := ⟨GT_kid HGU.out hvm⟩
          have HOV : Aside0 (Okt N v) := ⟨Okt_kid HOU.out hvm⟩
          have HE3 : Aside0 (atS l t = atS (l.drop (k + 1)) v) := ⟨by rw [HE2.out, atS, if_pos HI.out.2, HI.out.1, HV.out]⟩
          subst hA4
          have g0 := pw_cell_below HW.out.bel e0
          have g1 := pw_cell_below HW.out.bel e1
          have g2 := pw_cell_below HW.out.bel e2_
          have g3 := pw_cell_below HW.out.bel e3_
          have g4 := pw_cell_below HW.out.bel e4_
          clear hv hve hvm e0 e1 e2_ e3_ e4_ r1 r2 r3 r4 r5 r6 HE2
          obtain ⟨x0, x1, x2, x3, x4⟩ := cells5 HW.out.ba
          have f0 := blk_frozen HW.out.ba 0
          have f1 := blk_frozen HW.out.ba 1
          have f2 := blk_frozen HW.out.ba 2
          have f3 := blk_frozen HW.out.ba 3
          have f4 := blk_frozen HW.out.ba 4
          have hil4 : (i : Int) < (u.f4.length : Int) := by omega
          have HCN := Aside0.mk (CS_box HCL.out HW.out.ba (.int .i64 v.f0) (.bool v.f1) (.slice C2 v.f2.length q2) (.slice C3 v.f3.length q3) (.slice C4 v.f4.length q4))
          have HWN := Aside0.mk (HW.out.seta (.int .i64 v.f0) (.bool v.f1) (.slice C2 v.f2.length q2) (.slice C3 v.f3.length q3) (.slice C4 v.f4.length q4))
          go_wp2_with fail
          exact ⟨⟨k + 1, v, C2, q2, C3, q3, C4, q4, by go_num, by omega, HE3, HTV, HGV, HOV, ⟨.inr trivial⟩, HCN, HWN⟩, by simp [intOf]; omega⟩
      · skip
        have hkk : k = l.length := by omega
        have HE4 : Aside0 (AtS N t place = (u, 0)) := ⟨by rw [HAT.out, HE.out, hkk, List.drop_length, atS]⟩
        clear hkk HE
        obtain ⟨x0, x1, x2, x3, x4⟩ := cells5 HW.out.ba
        go_wp2_with fail
        clear x0 x1 x2 x3 x4
        refine (own_any N u B2 d2 B3 d3 B4 d4 wr (HTU.out.below HW.out.bel) HGU.out).mono ?_
        rintro e w10 ⟨J2, j2, J3, j3, J4, j4, rfl, ho, htr, hb⟩
        simp only [TV]
        have HCB : Aside0 (c < wr.heap.size) := ⟨blk_lt HW.out.bc⟩
        have HW := Aside0.mk (HW.out.step hb)
        have HOT := Aside0.mk ho
        clear hb ho htr
        obtain ⟨b0, b1, b2, b3, b4⟩ := cells5 HW.out.bc
        have f0 := blk_frozen HW.out.bc 0
        have f1 := blk_frozen HW.out.bc 1
        have f2 := blk_frozen HW.out.bc 2
        have f3 := blk_frozen HW.out.bc 3
        have f4 := blk_frozen HW.out.bc 4
        have HF := Aside0.mk (HW.out.setc (.int .i64 u.f0) (.bool u.f1) (.slice J2 u.f2.length j2) (.slice J3 u.f3.length j3) (.slice J4 u.f4.length j4))
        go_wp2_with fail
        refine bodyPost_ret (results_c1 rfl _ _ c 26 _ (0, 0) _ rfl HF.out.bc Tryd.underlying26 rfl (by kernel_rfl)) rfl ?_
        exact PutQ.of HE4.out (HOT.out.setb HCB.out _ _ _ _ _) (by have := HW.out.lo.2; have := HCB.out; omega) HF.out.bel
end Go.Proofs.YtfnofjcdaghniaaDoor.Tree
/- two trees in a row, two boxes. Own work. -/
namespace Go.Proofs.YtfnofjcdaghniaaDoor.Tree
set_option linter.unusedVariables false
set_option linter.unusedSimpArgs false
open Go.RowKit Go.Proofs.YtfnofjcdaghniaaDoor.PL Go.Proofs.YtfnofjcdaghniaaDoor.Mt Go.Proofs.YtfnofjcdaghniaaDoorW.PrintWords Go.Proofs.YtfnofjcdaghniaaDoorW.PrintLast Go.Proofs.YtfnofjcdaghniaaDoorW.PrintMore
theorem two_C {w : World} {g : Nat} {t u : S26} {A2 : Option Addr} {c2 : Nat} {A3 : Option Addr} {c3 : Nat} {A4 : Option Addr} {c4 : Nat} {B2 : Option Addr} {d2 : Nat} {B3 : Option Addr} {d3 : Nat} {B4 : Option Addr} {d4 : Nat}
    (hb : w.heap[g]? = some (.cells (cs5 t A2 c2 A3 c3 A4 c4 ++ cs5 u B2 d2 B3 d3 B4 d4).toArray 26 (0, 0))) (h : TR w t A2 c2 A3 c3 A4 c4) (h2 : TR w u B2 d2 B3 d3 B4 d4) : k26.C w (some ⟨g, 0, none⟩) 2 [t, u] := by
  have add : ∀ k : Nat, (⟨g, 0, none⟩ : Addr).add k = ⟨g, k, none⟩ := fun k => by
    cases k with
    | zero => rfl
    | succ k => simp [Addr.add]
  refine ⟨rfl, by decide, fun _ => ⟨_, rfl, fun j p hp => ?_⟩⟩
  match j, hp with
  | 0, hp =>
    simp only [List.getElem?_cons_zero, Option.some.injEq] at hp
    subst hp
    refine ⟨cs5 t A2 c2 A3 c3 A4 c4, rfl, h.K, fun i v hi => ?_⟩
    have hi5 : i < 5 := (List.getElem?_eq_some_iff.1 hi).1
    show w.cell? ((⟨g, 0, none⟩ : Addr).add (0 * 5 + i)) = some v
    rw [add, blk_cell hb, List.getElem?_toArray, List.getElem?_append_left (by show _ < 5; omega), show 0 * 5 + i = i by omega]
    exact hi
  | 1, hp =>
    simp only [List.getElem?_cons_succ, List.getElem?_cons_zero, Option.some.injEq] at hp
    subst hp
    refine ⟨cs5 u B2 d2 B3 d3 B4 d4, rfl, h2.K, fun i v hi => ?_⟩
    show w.cell? ((⟨g, 0, none⟩ : Addr).add (1 * 5 + i)) = some v
    rw [add, blk_cell hb, List.getElem?_toArray, List.getElem?_append_right (by show 5 ≤ _; omega), show 1 * 5 + i - (cs5 t A2 c2 A3 c3 A4 c4).length = i from by show 1 * 5 + i - 5 = i; omega]
    exact hi
  | (j + 2), hp => simp at hp
theorem AW.enter2 (w : World) (t u : S26) (A2 : Option Addr) (c2 : Nat) (A3 : Option Addr) (c3 : Nat) (A4 : Option Addr) (c4 : Nat) (B2 : Option Addr) (d2 : Nat) (B3 : Option Addr) (d3 : Nat) (B4 : Option Addr) (d4 : Nat) :
    AW w ((w.alloc (bx t A2 c2 A3 c3 A4 c4)).alloc (bx u B2 d2 B3 d3 B4 d4)) w.heap.size (w.heap.size + 1) #[.int .i64 t.f0, .bool t.f1, .slice A2 t.f2.length c2, .slice A3 t.f3.length c3, .slice A4 t.f4.length c4] #[.int .i64 u.f0, .bool u.f1, .slice B2 u.f2.length d2, .slice B3 u.f3.length d3, .slice B4 u.f4.length d4] := by
  obtain ⟨w1, hw1⟩ : ∃ q, w.alloc (bx t A2 c2 A3 c3 A4 c4) = q := ⟨_, rfl⟩
  have h1 : Below w.heap.size w w1 := hw1 ▸ below_alloc (Below.refl _ w) _
  have z1 : w1.heap.size = w.heap.size + 1 := by rw [← hw1]; simp
  have k1 : w1.heap[w.heap.size]? = some (bx t A2 c2 A3 c3 A4 c4) := hw1 ▸ heap_alloc_new w _
  have k2 := heap_alloc_new w1 (bx u B2 d2 B3 d3 B4 d4)
  rw [z1] at k2
  rw [hw1]
  exact ⟨blk_alloc k1 _, k2, by omega, by omega, below_alloc h1 _⟩
end Go.Proofs.YtfnofjcdaghniaaDoor.Tree
/- where a name stands, as a plain law. Own work. -/
namespace Go.Proofs.YtfnofjcdaghniaaDoor.Tree
set_option linter.unusedVariables false
set_option linter.unusedSimpArgs false
open Go.RowKit Go.Proofs.YtfnofjcdaghniaaDoor.PL Go.Proofs.YtfnofjcdaghniaaDoor.Mt Go.Proofs.YtfnofjcdaghniaaDoorW.PrintWords Go.Proofs.YtfnofjcdaghniaaDoorW.PrintLast Go.Proofs.YtfnofjcdaghniaaDoorW.PrintMore
theorem pos_at {l : List ByteArray} {n : ByteArray} (hs : Srt l) {i : Nat} (hi : i < l.length) (he : l[i] = n) : posS l n = i :=
  posS_unique (Nat.le_of_lt hi) (fun j hj hji => by rw [← he]; exact hs.lt hji hi) (fun _ => by rw [he]; exact ltB_irrefl n)
theorem has_at {l : List ByteArray} {n : ByteArray} (hs : Srt l) {i : Nat} (hi : i < l.length) (he : l[i] = n) : hasS l n = true := by
  unfold hasS
  rw [pos_at hs hi he, List.getElem?_eq_getElem hi, he]
  simp
theorem has_not {l : List ByteArray} {n : ByteArray} (h : ∀ j (hj : j < l.length), l[j] ≠ n) : hasS l n = false := by
  unfold hasS
  refine decide_eq_false (fun e => ?_)
  obtain ⟨h1, h2⟩ := List.getElem?_eq_some_iff.1 e
  exact h _ h1 h2
end Go.Proofs.YtfnofjcdaghniaaDoor.Tree
/- the reference's find, as a plain law. Own work. -/
namespace Go.Proofs.YtfnofjcdaghniaaDoor.Tree
set_option linter.unusedVariables false
set_option linter.unusedSimpArgs false
open Go.RowKit Go.Proofs.YtfnofjcdaghniaaDoor.PL Go.Proofs.YtfnofjcdaghniaaDoor.Mt Go.Proofs.YtfnofjcdaghniaaDoorW.PrintWords Go.Proofs.YtfnofjcdaghniaaDoorW.PrintLast Go.Proofs.YtfnofjcdaghniaaDoorW.PrintMore
def findS (l : List ByteArray) (n : ByteArray) : Int := if hasS l n = true then (posS l n : Int) else -1
theorem find_l (n : ByteArray) (a : Int) (b : Bool) (l2 : List Int) (l : List ByteArray) (l4 : List S26) (hs : Srt l) (hl : l.length ≤ 1000000) : ∀ (d k : Nat), l.length - k ≤ d → k ≤ l.length → (∀ j (hj : j < l.length), j < k → l[j] ≠ n) → ∀ K, d + 1 ≤ K → pantryref4_find.l0 K n (k : Int) a b l2 l l4 = some (findS l n) := by
  intro d
  induction d with
  | zero =>
    intro k h1 h2 h3 K hK
    obtain ⟨K, rfl⟩ : ∃ q, K = q + 1 := ⟨K - 1, by omega⟩
    rw [pantryref4_find.l0, if_neg (by omega), findS, has_not (fun j hj => h3 j hj (by omega)), if_neg (by simp)]
  | succ d ih =>
    intro k h1 h2 h3 K hK
    obtain ⟨K, rfl⟩ : ∃ q, K = q + 1 := ⟨K - 1, by omega⟩
    by_cases hlt : k < l.length
    · rw [pantryref4_find.l0, if_pos (by omega), if_pos (by omega), rdB hlt]
      by_cases he : l[k].toList = n.toList
      · have he2 : l[k] = n := ba_eq.1 he
        rw [if_pos he, findS, has_at hs hlt he2, if_pos rfl, pos_at hs hlt he2]
      · rw [if_neg he, nx (by omega)]
        refine ih (k + 1) (by omega) (by omega) (fun j hj hjk => ?_) K (by omega)
        by_cases hjj : j = k
        · subst hjj; exact fun e => he (by rw [e])
        · exact h3 j hj (by omega)
    · rw [pantryref4_find.l0, if_neg (by omega), findS, has_not (fun j hj => h3 j hj (by omega)), if_neg (by simp)]
theorem find_any (t : S26) (A2 : Option Addr) (c2 : Nat) (A3 : Option Addr) (c3 : Nat) (A4 : Option Addr) (c4 : Nat) (n : ByteArray) (w : World) (h : TR w t A2 c2 A3 c3 A4 c4) (hs : Srt t.f3) (hl : t.f3.length ≤ 1000000) :
    Calls Tryd.prog 39 #[TV t A2 c2 A3 c3 A4 c4, .string n] w fun e w' => e = .returned (.int .i64 (findS t.f3 n)) ∧ Below w.heap.size w w' := by
  obtain ⟨x1, x2, x3, x4, x5, x6⟩ := h
  exact pantryref4_find.calls (t.f3.length + 1) t.f0 t.f1 A2 c2 t.f2 A3 c3 t.f3 A4 c4 t.f4 n _ w x2 x1 x4 x3 x6 x5 (find_l n t.f0 t.f1 t.f2 t.f3 t.f4 hs hl t.f3.length 0 (by omega) (by omega) (fun j _ hj => by omega) _ (by omega))
end Go.Proofs.YtfnofjcdaghniaaDoor.Tree
/- the names of a place, by a scan. Own work. -/
namespace Go.Proofs.YtfnofjcdaghniaaDoor.Tree
set_option linter.unusedVariables false
set_option linter.unusedSimpArgs false
open Go.RowKit Go.Proofs.YtfnofjcdaghniaaDoor.PL Go.Proofs.YtfnofjcdaghniaaDoor.Mt Go.Proofs.YtfnofjcdaghniaaDoorW.PrintWords Go.Proofs.YtfnofjcdaghniaaDoorW.PrintLast Go.Proofs.YtfnofjcdaghniaaDoorW.PrintMore
def scanL : List UInt8 → List UInt8 → List (List UInt8)
  | [], acc => [acc]
  | c :: r, acc => if c = 47 then acc :: scanL r [] else scanL r (acc ++ [c])
/-- the first piece, and the rest -/
def cutL : List UInt8 → List UInt8 × Option (List UInt8)
  | [] => ([], none)
  | c :: r => if c = 47 then ([], some r) else (c :: (cutL r).1, (cutL r).2)
theorem scan_cut : ∀ (L acc : List UInt8), scanL L acc = match (cutL L).2 with | none => [acc ++ (cutL L).1] | some r => (acc ++ (cutL L).1) :: scanL r [] := by
  intro L
  induction L with
  | nil => intro acc; simp [scanL, cutL]
  | cons c r ih =>
    intro acc
    rw [scanL, cutL]
    by_cases h : c = 47
    · rw [if_pos h, if_pos h]; simp
    · rw [if_neg h, if_neg h, ih (acc ++ [c])]
      cases h2 : (cutL r).2 with
      | none => simp
      | some q => simp
theorem cut_none : ∀ {L : List UInt8}, Lib.indexByte L 47 = -1 → (cutL L).2 = none ∧ (cutL L).1 = L := by
  intro L
  induction L with
  | nil => intro _; exact ⟨rfl, rfl⟩
  | cons c r ih =>
    intro h
    have h0 := Lib.indexByte_none h 0
    have hc : c ≠ 47 := fun e => h0 (by simp [e])
    have hr : Lib.indexByte r 47 = -1 := by
      rcases Classical.em (Lib.indexByte r 47 < 0) with h5 | h5
      · have := Lib.indexByte_ge r 47; omega
      · obtain ⟨o, ho⟩ : ∃ o : Nat, Lib.indexByte r 47 = o := ⟨(Lib.indexByte r 47).toNat, by omega⟩
        have := (Lib.indexByte_some ho).1
        exact absurd (by simpa using this) (Lib.indexByte_none h (o + 1))
    obtain ⟨i1, i2⟩ := ih hr
    rw [cutL, if_neg hc, i1, i2]
    exact ⟨rfl, rfl⟩
theorem cut_some : ∀ {L : List UInt8} {i : Nat}, Lib.indexByte L 47 = i → (cutL L).1 = L.take i ∧ (cutL L).2 = some (L.drop (i + 1)) := by
  intro L
  induction L with
  | nil => intro i h; have := (Lib.indexByte_some h).1; simp at this
  | cons c r ih =>
    intro i h
    obtain ⟨h1, h2⟩ := Lib.indexByte_some h
    cases i with
    | zero =>
      have hc : c = 47 := by simpa using h1
      rw [cutL, if_pos hc]
      exact ⟨rfl, rfl⟩
    | succ i =>
      have hc : c ≠ 47 := fun e => h2 0 (by omega) (by simp [e])
      have hr : Lib.indexByte r 47 = i := by
        rcases Classical.em (Lib.indexByte r 47 < 0) with h5 | h5
        · have h6 : Lib.indexByte r 47 = -1 := by have := Lib.indexByte_ge r 47; omega
          exact absurd (by simpa using h1) (Lib.indexByte_none h6 i)
        · obtain ⟨o, ho⟩ : ∃ o : Nat, Lib.indexByte r 47 = o := ⟨(Lib.indexByte r 47).toNat, by omega⟩
          obtain ⟨g1, g2⟩ := Lib.indexByte_some ho
          have e : o = i := by
            rcases Nat.lt_trichotomy o i with h7 | h7 | h7
            · exact absurd (by simpa using g1) (h2 (o + 1) (by omega))
            · exact h7
            · exact absurd (by simpa using h1) (g2 i h7)
          rw [ho, e]
      obtain ⟨i1, i2⟩ := ih hr
      rw [cutL, if_neg hc, i1, i2]
      exact ⟨rfl, rfl⟩
theorem split_scan : ∀ (k : Nat) (s : ByteArray), Lib.countB s slash = k → (Lib.splitB slash 0 k s).map (fun b => b.data.toList) = scanL s.data.toList [] := by
  intro k
  induction k with
  | zero =>
    intro s h
    rcases Lib.indexB_cases s slash with h1 | ⟨i, h1, h2⟩
    · rw [Lib.splitB_miss _ _ _ _ h1, scan_cut]
      have h3 : Lib.indexByte s.data.toList 47 = -1 := by rw [← Lib.index_one]; exact h1
      obtain ⟨i1, i2⟩ := cut_none h3
      rw [i1, i2]; rfl
    · have := Lib.countB_hit s slash i (by decide) h1; omega
  | succ k ih =>
    intro s h
    rcases Lib.indexB_cases s slash with h1 | ⟨i, h1, h2⟩
    · have := Lib.countB_miss s slash h1; omega
    · have hc := Lib.countB_hit s slash i (by decide) h1
      rw [Lib.splitB_hit _ _ _ _ i h1, List.map_cons, ih _ (by omega), scan_cut s.data.toList []]
      have h3 : Lib.indexByte s.data.toList 47 = i := by rw [← Lib.index_one]; exact h1
      obtain ⟨i1, i2⟩ := cut_some h3
      rw [i1, i2]
      have hs1 : slash.size = 1 := rfl
      have e1 : (s.extract 0 (i + 0)).data.toList = s.data.toList.take i := by simp
      have e2 : (s.extract (i + slash.size) s.size).data.toList = s.data.toList.drop (i + 1) := by
        rw [hs1]
        simp only [ByteArray.data_extract, Array.toList_extract]
        rw [List.extract_eq_take_drop, List.take_of_length_le]
        rw [List.length_drop, Array.length_toList]
        show s.size - (i + 1) ≤ _
        omega
      rw [e1, e2]; rfl
end Go.Proofs.YtfnofjcdaghniaaDoor.Tree
/- the reference's IsEntry and Parts, as plain laws. Own work. -/
namespace Go.Proofs.YtfnofjcdaghniaaDoor.Tree
set_option linter.unusedVariables false
set_option linter.unusedSimpArgs false
open Go.RowKit Go.Proofs.YtfnofjcdaghniaaDoor.PL Go.Proofs.YtfnofjcdaghniaaDoor.Mt Go.Proofs.YtfnofjcdaghniaaDoorW.PrintWords Go.Proofs.YtfnofjcdaghniaaDoorW.PrintLast Go.Proofs.YtfnofjcdaghniaaDoorW.PrintMore
theorem bt_iff (s : ByteArray) (k : Nat) (h : k < s.data.toList.length) (c : UInt8) : bt s (k : Int) = (c.toNat : Int) ↔ s.data.toList[k] = c := by
  have hs : k < s.size := by rw [size_data] at h; exact h
  have h1 := bt_at s (k : Int) (by rw [Int.toNat_natCast]; exact hs)
  rw [← h1]
  have h2 : (s[(k : Int).toNat]'(by rw [Int.toNat_natCast]; exact hs)) = s.data.toList[k] := ba_get s k hs h
  rw [h2]
  constructor
  · intro e; exact UInt8.toNat.inj (by omega)
  · intro e; rw [e]
theorem ie_l (s : ByteArray) (hl : s.size ≤ 100) : ∀ (d k : Nat), s.size - k ≤ d → k ≤ s.size → ∀ K, d + 1 ≤ K → pantryref4_IsEntry.l0 K s (k : Int) = some (!(s.data.toList.drop k).contains 47 && !(s.data.toList.drop k).contains 0) := by
  have hsz := size_data s
  intro d
  induction d with
  | zero =>
    intro k h1 h2 K hK
    obtain ⟨K, rfl⟩ : ∃ q, K = q + 1 := ⟨K - 1, by omega⟩
    rw [pantryref4_IsEntry.l0, if_neg (by omega), List.drop_eq_nil_of_le (by omega)]
    rfl
  | succ d ih =>
    intro k h1 h2 K hK
    obtain ⟨K, rfl⟩ : ∃ q, K = q + 1 := ⟨K - 1, by omega⟩
    by_cases hlt : k < s.size
    · have hlt2 : k < s.data.toList.length := by omega
      rw [pantryref4_IsEntry.l0, if_pos (by omega), if_pos (by omega), List.drop_eq_getElem_cons hlt2]
      by_cases h47 : bt s (k : Int) = 47
      · have e := (bt_iff s k hlt2 47).1 h47
        rw [if_pos h47, e]
        simp
      · have e : s.data.toList[k] ≠ 47 := fun e => h47 ((bt_iff s k hlt2 47).2 e)
        rw [if_neg h47]
        by_cases h0 : bt s (k : Int) = 0
        · have e0 := (bt_iff s k hlt2 0).1 h0
          rw [if_pos h0, e0]
          simp
        · have e0 : s.data.toList[k] ≠ 0 := fun e => h0 ((bt_iff s k hlt2 0).2 e)
          rw [if_neg h0, nx (by omega), ih (k + 1) (by omega) (by omega) K (by omega), List.contains_cons, List.contains_cons, beq_eq_false_iff_ne.2 e.symm, beq_eq_false_iff_ne.2 e0.symm]
          rfl
    · rw [pantryref4_IsEntry.l0, if_neg (by omega), List.drop_eq_nil_of_le (by omega)]
      rfl
theorem ie_f (s : ByteArray) : ∀ K, 103 ≤ K → pantryref4_IsEntry.f K s = some (isE s) := by
  intro K hK
  obtain ⟨K, rfl⟩ : ∃ q, K = q + 1 := ⟨K - 1, by omega⟩
  unfold pantryref4_IsEntry.f isE
  rw [index_neg, index_neg]
  by_cases h1 : (s.size : Int) < 1
  · rw [if_pos h1, pantryref4_IsEntry.j0, if_pos rfl, decide_eq_false (by omega : ¬ 1 ≤ (s.size : Int))]; rfl
  rw [if_neg h1, decide_eq_true (by omega : 1 ≤ (s.size : Int))]
  by_cases h2 : (s.size : Int) > 100
  · rw [if_pos h2, pantryref4_IsEntry.j0, if_pos rfl, decide_eq_false (by omega : ¬ (s.size : Int) ≤ 100)]; rfl
  rw [if_neg h2, decide_eq_true (by omega : (s.size : Int) ≤ 100)]
  by_cases h3 : s.toList = [46]
  · rw [if_pos h3, pantryref4_IsEntry.j0, if_pos rfl, h3]; rfl
  rw [if_neg h3, beq_eq_false_iff_ne.2 h3, pantryref4_IsEntry.j0]
  by_cases h4 : s.toList = [46, 46]
  · rw [if_pos (by rw [h4]; rfl), h4]; rfl
  have hl := ie_l s (by omega) s.size 0 (by omega) (by omega) K (by omega)
  rw [if_neg (by simpa using h4), beq_eq_false_iff_ne.2 h4]
  rw [List.drop_zero] at hl
  simpa using hl
end Go.Proofs.YtfnofjcdaghniaaDoor.Tree
/- the reference's Parts, as a plain law. Own work. -/
namespace Go.Proofs.YtfnofjcdaghniaaDoor.Tree
set_option linter.unusedVariables false
set_option linter.unusedSimpArgs false
open Go.RowKit Go.Proofs.YtfnofjcdaghniaaDoor.PL Go.Proofs.YtfnofjcdaghniaaDoor.Mt Go.Proofs.YtfnofjcdaghniaaDoorW.PrintWords Go.Proofs.YtfnofjcdaghniaaDoorW.PrintLast Go.Proofs.YtfnofjcdaghniaaDoorW.PrintMore
def mkB (l : List UInt8) : ByteArray := ⟨l.toArray⟩
theorem mkB_data (s : ByteArray) : mkB s.data.toList = s := by
  cases s with
  | mk d => unfold mkB; simp
def resP (dn ps : List ByteArray) : List ByteArray × Bool := if ps.all isE = true then (dn ++ ps, true) else ([], false)
theorem resP_cons {dn ps : List ByteArray} {p : ByteArray} (h : isE p = true) : resP dn (p :: ps) = resP (dn ++ [p]) ps := by
  unfold resP
  rw [List.all_cons, h, Bool.true_and, List.append_assoc]; rfl
theorem resP_bad {dn ps : List ByteArray} {p : ByteArray} (h : isE p = false) : resP dn (p :: ps) = ([], false) := by
  unfold resP
  rw [List.all_cons, h, Bool.false_and, if_neg (by simp)]
theorem bind_true (f : Bool → Option (List ByteArray × Bool)) : (some true).bind f = f true := rfl
theorem bind_false (f : Bool → Option (List ByteArray × Bool)) : (some false).bind f = f false := rfl
theorem parts_l (s : ByteArray) (hl : s.size ≤ 1000000) : ∀ (d i : Nat), s.size - i ≤ d → i ≤ s.size → ∀ (dn : List ByteArray) (acc : ByteArray), acc.size ≤ i → dn.length ≤ i → ∀ K, 2 * d + 110 ≤ K →
    pantryref4_Parts.l0 K s dn acc (i : Int) = some (resP dn ((scanL (s.data.toList.drop i) acc.data.toList).map mkB)) := by
  have hsz := size_data s
  intro d
  induction d with
  | zero =>
    intro i h1 h2 dn acc ha hd K hK
    obtain ⟨K, rfl⟩ : ∃ q, K = q + 3 := ⟨K - 3, by omega⟩
    rw [pantryref4_Parts.l0, if_pos (by omega), if_neg (by omega), pantryref4_Parts.j1, if_neg (by simp), ie_f acc (K + 1) (by omega), List.drop_eq_nil_of_le (by omega), scanL, List.map_cons, List.map_nil, mkB_data]
    cases h : isE acc with
    | true =>
      rw [resP_cons h]
      rw [bind_true]
      rw [if_pos rfl, if_pos (by omega), nx (by omega), pantryref4_Parts.l0, if_neg (by omega)]
      simp [resP]
    | false =>
      rw [resP_bad h]
      rw [bind_false]
      rw [if_neg (by simp)]
  | succ d ih =>
    intro i h1 h2 dn acc ha hd K hK
    by_cases hlt : i < s.size
    · have hlt2 : i < s.data.toList.length := by omega
      obtain ⟨K, rfl⟩ : ∃ q, K = q + 2 := ⟨K - 2, by omega⟩
      rw [pantryref4_Parts.l0, if_pos (by omega), if_pos (by omega), if_pos (by omega), List.drop_eq_getElem_cons hlt2, scanL]
      by_cases hc : s.data.toList[i] = 47
      · have hb : (bt s (i : Int) != 47) = false := by rw [(bt_iff s i hlt2 47).2 hc]; rfl
        rw [hb, pantryref4_Parts.j1, if_neg (by simp), ie_f acc K (by omega), if_pos hc, List.map_cons, mkB_data]
        cases h : isE acc with
        | true =>
          rw [resP_cons h]
          rw [bind_true]
          rw [if_pos rfl, if_pos (by omega), nx (by omega)]
          exact ih (i + 1) (by omega) (by omega) (dn ++ [acc]) ⟨#[]⟩ (Nat.zero_le _) (by simp; omega) K (by omega)
        | false =>
          rw [resP_bad h]
          rw [bind_false]
          rw [if_neg (by simp)]
      · have hb : (bt s (i : Int) != 47) = true := by
          rw [bne_iff_ne]
          exact fun e => hc ((bt_iff s i hlt2 47).1 e)
        have hex : (s.extract i (i + 1)).data.toList = [s.data.toList[i]] := by
          simp only [ByteArray.data_extract, Array.toList_extract]
          rw [List.extract_eq_take_drop, List.drop_eq_getElem_cons hlt2, show i + 1 - i = 1 by omega, List.take_succ_cons, List.take_zero]
        have hes : (s.extract i (i + 1)).size = 1 := by rw [← size_data, hex]; rfl
        rw [hb, pantryref4_Parts.j1, if_pos rfl, if_pos (by omega), nx (by omega), if_pos (by omega), if_pos (by omega), Int.toNat_natCast, Int.toNat_natCast, if_pos (by omega), if_neg hc]
        have h9 := ih (i + 1) (by omega) (by omega) dn (acc ++ s.extract i (i + 1)) (by rw [ByteArray.size_append]; omega) (by omega) K (by omega)
        rw [h9, ByteArray.data_append, Array.toList_append, hex]
    · obtain ⟨K, rfl⟩ : ∃ q, K = q + 3 := ⟨K - 3, by omega⟩
      rw [pantryref4_Parts.l0, if_pos (by omega), if_neg (by omega), pantryref4_Parts.j1, if_neg (by simp), ie_f acc (K + 1) (by omega), List.drop_eq_nil_of_le (by omega), scanL, List.map_cons, List.map_nil, mkB_data]
      cases h : isE acc with
      | true =>
        rw [resP_cons h]
        rw [bind_true]
        rw [if_pos rfl, if_pos (by omega), nx (by omega), pantryref4_Parts.l0, if_neg (by omega)]
        simp [resP]
      | false =>
        rw [resP_bad h]
        rw [bind_false]
        rw [if_neg (by simp)]
theorem parts_f (s : ByteArray) (hl : s.size ≤ 1000000) : ∃ K, pantryref4_Parts.f K s = some (resP [] (partsS s)) := by
  refine ⟨2 * s.size + 110, ?_⟩
  unfold pantryref4_Parts.f partsS
  by_cases h0 : s.size = 0
  · have he : s.toList = [] := by
      rw [toList_data]
      exact List.eq_nil_of_length_eq_zero (by rw [size_data]; exact h0)
    rw [if_pos he, if_pos h0]; rfl
  · have he : s.toList ≠ [] := fun e => h0 (by rw [toList_data] at e; rw [← size_data, e]; rfl)
    rw [if_neg he, if_neg h0]
    have h9 := parts_l s hl s.size 0 (by omega) (by omega) [] ⟨#[]⟩ (Nat.le_refl _) (Nat.le_refl _) (2 * s.size + 110) (Nat.le_refl _)
    have h8 := split_scan (Lib.countB s slash) s rfl
    rw [List.drop_zero] at h9
    have e1 : ((⟨#[]⟩ : ByteArray).data.toList) = [] := rfl
    rw [e1, ← h8, List.map_map] at h9
    have e2 : (Lib.splitB slash 0 (Lib.countB s slash) s).map (mkB ∘ fun b => b.data.toList) = Lib.splitB slash 0 (Lib.countB s slash) s := by
      conv => rhs; rw [← List.map_id (Lib.splitB slash 0 (Lib.countB s slash) s)]
      exact List.map_congr_left (fun b _ => mkB_data b)
    rw [e2] at h9
    exact h9
theorem RParts_any (s : ByteArray) (w : World) (hl : s.size ≤ 1000000) :
    Calls Tryd.prog 23 #[.string s] w fun e w' => ∃ v0_ : Value, e = .returned (.tuple #[v0_, .bool (resP [] (partsS s)).2]) ∧ Kd.R Kd.string 9 w' w.heap.size (fun _ => True) v0_ (resP [] (partsS s)).1 ∧ Below w.heap.size w w' := by
  obtain ⟨K, hK⟩ := parts_f s hl
  exact pantryref4_Parts.calls K s (resP [] (partsS s)).1 (resP [] (partsS s)).2 w hK
end Go.Proofs.YtfnofjcdaghniaaDoor.Tree
/- the reference's At, walked. Own work; printed by gen_rat.py. -/
namespace Go.Proofs.YtfnofjcdaghniaaDoor.Tree
set_option linter.unusedVariables false
set_option linter.unusedSimpArgs false
open Go.RowKit Go.Proofs.YtfnofjcdaghniaaDoor.PL Go.Proofs.YtfnofjcdaghniaaDoor.Mt Go.Proofs.YtfnofjcdaghniaaDoorW.PrintWords Go.Proofs.YtfnofjcdaghniaaDoorW.PrintLast Go.Proofs.YtfnofjcdaghniaaDoorW.PrintMore
set_option maxRecDepth 20000 in
set_option maxHeartbeats 8000000 in
theorem RAt_any (N : Nat) (t : S26) (A2 : Option Addr) (c2 : Nat) (A3 : Option Addr) (c3 : Nat) (A4 : Option Addr) (c4 : Nat) (place : ByteArray) (w : World)
    (ht : TR w t A2 c2 A3 c3 A4 c4) (hGt : GT N t) (hg : G0 w) (hp : place.size ≤ 999999) :
    Calls Tryd.prog 20 #[TV t A2 c2 A3 c3 A4 c4, .string place] w (PutQ w (AtS N t place)) := by
  have HT := Aside0.mk (And.intro ht (And.intro hg (show place.size ≤ 1000000 by omega)))
  have HG := Aside0.mk hGt
  clear ht hGt hg hp
  have HW := Aside0.mk (AW.enter w t A2 c2 A3 c3 A4 c4)
  go_enter Tryd.func20, Tryd.ntmps20
  go_upto_region 1 with fail
  generalize ((w.alloc (bx t A2 c2 A3 c3 A4 c4)).alloc (.cells #[.int .i64 0, .bool false, .slice none 0 0, .slice none 0 0, .slice none 0 0] 26)) = w3 at *
  obtain ⟨a, ha⟩ : ∃ q, w.heap.size = q := ⟨_, rfl⟩
  rw [ha] at HW ⊢
  clear ha
  obtain ⟨c, hc⟩ : ∃ q, a + 1 = q := ⟨_, rfl⟩
  rw [hc] at HW ⊢
  clear hc
  obtain ⟨x0, x1, x2, x3, x4⟩ := cells5 HW.out.ba
  go_wp2_with fail
  clear x0 x1 x2 x3 x4
  refine (RCheck_any N t A2 c2 A3 c3 A4 c4 w3 (HT.out.1.below HW.out.bel) HG.out).mono ?_
  rintro e w4 ⟨rfl, hb⟩
  have HW := Aside0.mk (HW.out.step hb)
  clear hb
  obtain ⟨k1, hk1⟩ : ∃ q, (chk N t 1 0).1 = q := ⟨_, rfl⟩
  rw [hk1]
  have HK1 := Aside0.mk hk1
  clear hk1
  by_cases hz : k1 = 0
  rotate_left
  · skip
    have hkb : (k1 != 0) = true := by simpa using hz
    have HP := Aside0.mk (show AtS N t place = (z0, k1) from by unfold AtS; rw [HK1.out, if_pos hz])
    obtain ⟨b0, b1, b2, b3, b4⟩ := cells5 HW.out.bc
    have f0 := blk_frozen HW.out.bc 0
    have f1 := blk_frozen HW.out.bc 1
    have f2 := blk_frozen HW.out.bc 2
    have f3 := blk_frozen HW.out.bc 3
    have f4 := blk_frozen HW.out.bc 4
    have HF := Aside0.mk (HW.out.setc (.int .i64 0) (.bool false) (.slice none 0 0) (.slice none 0 0) (.slice none 0 0))
    clear hz
    go_wp2_with fail
    refine bodyPost_ret (results_c1 rfl _ _ c 26 _ (0, 0) _ rfl HF.out.bc Tryd.underlying26 rfl (by kernel_rfl)) rfl ?_
    exact PutQ.zero HP.out HF.out.bel
  subst hz
  go_wp2_with fail
  refine (RParts_any place w4 HT.out.2.2).mono ?_
  rintro e w6 ⟨v0_, rfl, hR, hb⟩
  have HW := Aside0.mk (HW.out.step hb)
  clear hb
  obtain ⟨l, hl⟩ : ∃ q, partsS place = q := ⟨_, rfl⟩
  obtain ⟨ok, hok⟩ : ∃ q, l.all isE = q := ⟨_, rfl⟩
  have hll : l.length ≤ 1000001 := by rw [← hl]; exact partsS_len place HT.out.2.2
  rw [hl] at hR ⊢
  have hr2 : (resP [] l).2 = ok := by unfold resP; rw [hok]; cases ok <;> rfl
  rw [hr2]
  have HL := Aside0.mk (And.intro hl hok)
  obtain ⟨ll, hl1⟩ : ∃ q, (resP [] l).1 = q := ⟨_, rfl⟩
  rw [hl1] at hR
  have HRL := Aside0.mk hl1
  obtain ⟨LA, lc, rfl⟩ := Kd.R_slice hR
  have HC := Aside0.mk (Kd.R_reads' hR)
  clear hl hok hR hr2 hl1
  cases ok with
  | false =>
    have HP := Aside0.mk (show AtS N t place = (z0, 9) from by unfold AtS; rw [HK1.out, if_neg (by simp), HL.out.1, if_pos HL.out.2])
    obtain ⟨b0, b1, b2, b3, b4⟩ := cells5 HW.out.bc
    have f0 := blk_frozen HW.out.bc 0
    have f1 := blk_frozen HW.out.bc 1
    have f2 := blk_frozen HW.out.bc 2
    have f3 := blk_frozen HW.out.bc 3
    have f4 := blk_frozen HW.out.bc 4
    have HF := Aside0.mk (HW.out.setc (.int .i64 0) (.bool false) (.slice none 0 0) (.slice none 0 0) (.slice none 0 0))
    go_wp2_with fail
    refine bodyPost_ret (results_c1 rfl _ _ c 26 _ (0, 0) _ rfl HF.out.bc Tryd.underlying26 rfl (by kernel_rfl)) rfl ?_
    exact PutQ.zero HP.out HF.out.bel
  | true =>
    obtain rfl : l = ll := by have := HRL.out; unfold resP at this; rw [HL.out.2, if_pos rfl] at this; exact this
    clear HRL
    have HAT : Aside0 (AtS N t place = atS l t) := ⟨by unfold AtS; rw [HK1.out, if_neg (by simp), HL.out.1, if_neg (by rw [HL.out.2]; simp)]⟩
    have HO : Aside0 (Okt N t) := ⟨chk_okt N t 1 0 HG.out (by omega) HK1.out⟩
    go_wp2_with fail
    go_loopw [9] (fun v wr => ∃ (k : Nat) (u : S26) (B2 : Option Addr) (d2 : Nat) (B3 : Option Addr) (d3 : Nat) (B4 : Option Addr) (d4 : Nat), v = .int .i64 (k : Int) ∧ k ≤ l.length ∧ Aside0 (atS l t = atS (l.drop k) u) ∧ Aside0 (TR w u B2 d2 B3 d3 B4 d4) ∧ Aside0 (GT N u) ∧ Aside0 (Okt N u) ∧ Aside0 (Below w6.heap.size w6 wr ∨ True) ∧ Aside0 (Kd.string.C wr LA l.length l) ∧ Aside0 (AW w wr a c #[.int .i64 u.f0, .bool u.f1, .slice B2 u.f2.length d2, .slice B3 u.f3.length d3, .slice B4 u.f4.length d4] #[.int .i64 0, .bool false, .slice none 0 0, .slice none 0 0, .slice none 0 0])) (fun v _ => l.length - (intOf v).toNat)
    case atStart => exact ⟨0, t, A2, c2, A3, c3, A4, c4, rfl, Nat.zero_le _, ⟨rfl⟩, ⟨HT.out.1⟩, HG, HO, ⟨.inr trivial⟩, ⟨HC.out.2.2⟩, HW⟩
    case round =>
      clear HW HO
      obtain ⟨k, u, B2, d2, B3, d3, B4, d4, rfl, hk, HE, HTU, HGU, HOU, -, HCL, HW⟩ := hrel
      by_cases hlt : k < l.length
      · skip
        obtain ⟨ad, hA, hcn⟩ := Kd.at_string HCL.out (k : Int) (by omega) (by omega)
        obtain ⟨nm, hnm⟩ : ∃ x, rdOf ByteArray.empty l (k : Int) = x := ⟨_, rfl⟩
        have hne : l[k] = nm := by rw [← hnm, rdB hlt]
        rw [hnm, Int.toNat_natCast] at hcn
        subst hA
        have HE2 : Aside0 (atS l t = atS (nm :: l.drop (k + 1)) u) := ⟨by rw [HE.out, List.drop_eq_getElem_cons hlt, hne]⟩
        clear hne hnm HE
        go_upto_region 10 with fail
        have hdr := below_drew (Below.refl wr.heap.size wr)
        have HW := Aside0.mk (HW.out.step hdr)
        have HCL := Aside0.mk (Kd.C_below HCL.out hdr)
        have hcn2 := pw_cell_below hdr hcn
        clear hdr hcn
        obtain ⟨x0, x1, x2, x3, x4⟩ := cells5 HW.out.ba
        refine start_ (n := 7) (S := fun w' => w'.cell? ⟨a, 0, none⟩ = some (.int .i64 u.f0) ∧ w'.cell? ⟨a, 1, none⟩ = some (.bool u.f1) ∧ w'.cell? ⟨a, 2, none⟩ = some (.slice B2 u.f2.length d2) ∧ w'.cell? ⟨a, 3, none⟩ = some (.slice B3 u.f3.length d3) ∧ w'.cell? ⟨a, 4, none⟩ = some (.slice B4 u.f4.length d4) ∧ w'.cell? (ad.add k) = some (.string nm)) (ds := []) #[false, false, false, false, false, false, false] (by kernel_rfl) rfl rfl ⟨x0, x1, x2, x3, x4, hcn2⟩ (fun hHeld => ?_)
        clear x0 x1 x2 x3 x4 hcn2
        generalize wr.drew = wr at *
        refine pure_ (i := 1) (N := some 32) (v := ?_) (a' := ?_) #[false, true, false, false, false, false, false] rfl rfl (by kernel_rfl) (fun _ _ _ h => h) (Or.inl ⟨by rfl, ?_⟩) ?_ ?_
        rotate_left
        · intro w'
          go_simp
          with_reducible rfl
        rotate_left
        · simp only [Act.put, List.setIfInBounds_toArray, List.set_cons_zero, List.set_cons_succ]
          rfl
        refine pure_ (i := 2) (N := some 33) (v := ?_) (a' := ?_) #[false, true, true, false, false, false, false] rfl rfl (by kernel_rfl) (fun _ _ _ h => h) (Or.inl ⟨by rfl, ?_⟩) ?_ ?_
        rotate_left
        · intro w'
          go_simp
          with_reducible rfl
        rotate_left
        · simp only [Act.put, List.setIfInBounds_toArray, List.set_cons_zero, List.set_cons_succ]
          rfl
        refine take_ (i := 0) (N := some 31) (v := ?_) (a' := ?_) #[true, true, true, false, false, false, false] rfl rfl (by kernel_rfl) (fun _ _ _ h => h) (Or.inl ⟨by rfl, ?_⟩) hHeld ?_ ?_
        rotate_left
        · rintro w' ⟨s0, s1, s2, s3, s4, s5⟩
          go_simp
          with_reducible rfl
        rotate_left
        · simp only [Act.put, List.setIfInBounds_toArray, List.set_cons_zero, List.set_cons_succ]
          rfl
        refine pure_ (i := 3) (N := some 34) (v := ?_) (a' := ?_) #[true, true, true, true, false, false, false] rfl rfl (by kernel_rfl) (fun _ _ _ h => h) (Or.inl ⟨by rfl, ?_⟩) ?_ ?_
        rotate_left
        · intro w'
          go_simp
          with_reducible rfl
        rotate_left
        · simp only [Act.put, List.setIfInBounds_toArray, List.set_cons_zero, List.set_cons_succ]
          rfl
        refine take_ (i := 4) (N := some 35) (v := ?_) (a' := ?_) #[true, true, true, true, true, false, false] rfl rfl (by kernel_rfl) (fun _ _ _ h => h) (Or.inl ⟨by rfl, ?_⟩) hHeld ?_ ?_
        rotate_left
        · rintro w' ⟨s0, s1, s2, s3, s4, s5⟩
          go_simp
          with_reducible rfl
        rotate_left
        · simp only [Act.put, List.setIfInBounds_toArray, List.set_cons_zero, List.set_cons_succ]
          rfl
        obtain ⟨z, hz⟩ : ∃ q, findS u.f3 nm = q := ⟨_, rfl⟩
        have HZ := Aside0.mk hz
        clear hz
        refine one_ (i := 5) (N := some 36) #[true, true, true, true, true, true, false] rfl rfl (by kernel_rfl) (by decide) (fun K hK => ?_)
        go_simp
        refine (find_any u B2 d2 B3 d3 B4 d4 nm wr (HTU.out.below HW.out.bel) (OktS HOU.out).1 (OktS HOU.out).2).mono ?_
        rintro e w8 ⟨rfl, hb⟩
        rw [HZ.out]
        have hS := And.intro hHeld (pw_cell_below hb hHeld.2.2.2.2.2)
        have HW := Aside0.mk (HW.out.step hb)
        have HCL := Aside0.mk (Kd.C_below HCL.out hb)
        clear hb
        obtain ⟨x0, x1, x2, x3, x4⟩ := cells5 HW.out.ba
        refine hK.out _ _ ⟨x0, x1, x2, x3, x4, hS.2⟩ (fun hHeld => ?_)
        clear hK K
        clear x0 x1 x2 x3 x4 hS
        refine pure_ (i := 6) (N := some 10) (v := ?_) (a' := ?_) #[true, true, true, true, true, true, true] rfl rfl (by kernel_rfl) (fun _ _ _ h => h) (Or.inl ⟨by rfl, ?_⟩) ?_ ?_
        rotate_left
        · intro w'
          go_simp
          with_reducible rfl
        rotate_left
        · simp only [Act.put, List.setIfInBounds_toArray, List.set_cons_zero, List.set_cons_succ]
          rfl
        refine done_ (by kernel_rfl) ?_
        clear hHeld
        obtain ⟨i, hi⟩ : ∃ q, posS u.f3 nm = q := ⟨_, rfl⟩
        obtain ⟨h, hh⟩ : ∃ q, hasS u.f3 nm = q := ⟨_, rfl⟩
        have HI := Aside0.mk (And.intro hi hh)
        clear hi hh
        cases h with
        | false =>
          obtain rfl : z = -1 := by rw [← HZ.out, findS, if_neg (by rw [HI.out.2]; simp)]
          have HP := Aside0.mk (show AtS N t place = (z0, 7) from by rw [HAT.out, HE2.out, atS, if_neg (by rw [HI.out.2]; simp)])
          obtain ⟨b0, b1, b2, b3, b4⟩ := cells5 HW.out.bc
          have f0 := blk_frozen HW.out.bc 0
          have f1 := blk_frozen HW.out.bc 1
          have f2 := blk_frozen HW.out.bc 2
          have f3 := blk_frozen HW.out.bc 3
          have f4 := blk_frozen HW.out.bc 4
          have HF := Aside0.mk (HW.out.setc (.int .i64 0) (.bool false) (.slice none 0 0) (.slice none 0 0) (.slice none 0 0))
          go_wp2_with fail
          refine bodyPost_ret (results_c1 rfl _ _ c 26 _ (0, 0) _ rfl HF.out.bc Tryd.underlying26 rfl (by kernel_rfl)) rfl ?_
          exact PutQ.zero HP.out HF.out.bel
        | true =>
          obtain rfl : z = (i : Int) := by rw [← HZ.out, findS, if_pos HI.out.2, HI.out.1]
          have hnn : decide ((i : Int) < 0) = false := decide_eq_false (by omega)
          have hil : i < u.f4.length := by
            have h1 := HI.out.1
            have h2 := HI.out.2
            have h3 := OktL HOU.out
            unfold hasS at h2
            rw [h1] at h2
            have := (List.getElem?_eq_some_iff.1 (of_decide_eq_true h2)).1
            omega
          obtain ⟨ad4, C2, q2, C3, q3, C4, q4, hA4, e0, e1, e2_, e3_, e4_, r1, r2, r3, r4, r5, r6⟩ := at_T26 HTU.out.2.2.2.2.2 (i : Int) (by omega) (by omega)
          obtain ⟨v, hv⟩ : ∃ x, rd_T26 u.f4 (i : Int) = x := ⟨_, rfl⟩
          have hve : u.f4[i] = v := by rw [← hv, rdT hil]
          rw [hv] at e0 e1 e2_ e3_ e4_ r1 r2 r3 r4 r5 r6
          rw [Int.toNat_natCast] at e0 e1 e2_ e3_ e4_
          have HTV : Aside0 (TR w v C2 q2 C3 q3 C4 q4) := ⟨⟨r1, r2, r3, r4, r5, r6⟩⟩
          have HV : Aside0 (u.f4.getD i dir0 = v) := ⟨by rw [List.getD_eq_getElem?_getD, List.getElem?_eq_getElem hil]; exact hve⟩
          have hvm : v ∈ u.f4 := hve ▸ List.getElem_mem hil
          have HGV : Aside0 (GT N v) := ⟨GT_kid HGU.out hvm⟩
          have HOV : Aside0 (Okt N v) := ⟨Okt_kid HOU.out hvm⟩
          have HE3 : Aside0 (atS l t = atS (l.drop (k + 1)) v) := ⟨by rw [HE2.out, atS, if_pos HI.out.2, HI.out.1, HV.out]⟩
          subst hA4
          have g0 := pw_cell_below HW.out.bel e0
          have g1 := pw_cell_below HW.out.bel e1
          have g2 := pw_cell_below HW.out.bel e2_
          have g3 := pw_cell_below HW.out.bel e3_
          have g4 := pw_cell_below HW.out.bel e4_
          clear hv hve hvm e0 e1 e2_ e3_ e4_ r1 r2 r3 r4 r5 r6 HE2
          obtain ⟨x0, x1, x2, x3, x4⟩ := cells5 HW.out.ba
          have f0 := blk_frozen HW.out.ba 0
          have f1 := blk_frozen HW.out.ba 1
          have f2 := blk_frozen HW.out.ba 2
          have f3 := blk_frozen HW.out.ba 3
          have f4 := blk_frozen HW.out.ba 4
          have hil4 : (i : Int) < (u.f4.length : Int) := by omega
          have HCN := Aside0.mk (CS_box HCL.out HW.out.ba (.int .i64 v.f0) (.bool v.f1) (.slice C2 v.f2.length q2) (.slice C3 v.f3.length q3) (.slice C4 v.f4.length q4))
          have HWN := Aside0.mk (HW.out.seta (.int .i64 v.f0) (.bool v.f1) (.slice C2 v.f2.length q2) (.slice C3 v.f3.length q3) (.slice C4 v.f4.length q4))
          go_wp2_with fail
          exact ⟨⟨k + 1, v, C2, q2, C3, q3, C4, q4, by go_num, by omega, HE3, HTV, HGV, HOV, ⟨.inr trivial⟩, HCN, HWN⟩, by simp [intOf]; omega⟩
      · skip
        have hkk : k = l.length := by omega
        have HE4 : Aside0 (AtS N t place = (u, 0)) := ⟨by rw [HAT.out, HE.out, hkk, List.drop_length, atS]⟩
        clear hkk HE
        obtain ⟨x0, x1, x2, x3, x4⟩ := cells5 HW.out.ba
        go_wp2_with fail
        clear x0 x1 x2 x3 x4
        refine (Clone_any N u B2 d2 B3 d3 B4 d4 wr (HTU.out.below HW.out.bel) HGU.out).mono ?_
        rintro e w10 ⟨J2, j2, J3, j3, J4, j4, rfl, ho, htr, hb⟩
        simp only [TV]
        have HCB : Aside0 (c < wr.heap.size) := ⟨blk_lt HW.out.bc⟩
        have HW := Aside0.mk (HW.out.step hb)
        have HOT := Aside0.mk ho
        clear hb ho htr
        obtain ⟨b0, b1, b2, b3, b4⟩ := cells5 HW.out.bc
        have f0 := blk_frozen HW.out.bc 0
        have f1 := blk_frozen HW.out.bc 1
        have f2 := blk_frozen HW.out.bc 2
        have f3 := blk_frozen HW.out.bc 3
        have f4 := blk_frozen HW.out.bc 4
        have HF := Aside0.mk (HW.out.setc (.int .i64 u.f0) (.bool u.f1) (.slice J2 u.f2.length j2) (.slice J3 u.f3.length j3) (.slice J4 u.f4.length j4))
        go_wp2_with fail
        refine bodyPost_ret (results_c1 rfl _ _ c 26 _ (0, 0) _ rfl HF.out.bc Tryd.underlying26 rfl (by kernel_rfl)) rfl ?_
        exact PutQ.of HE4.out (HOT.out.setb HCB.out _ _ _ _ _) (by have := HW.out.lo.2; have := HCB.out; omega) HF.out.bel
end Go.Proofs.YtfnofjcdaghniaaDoor.Tree
/- put and at, as plain laws. Own work. -/
namespace Go.Proofs.YtfnofjcdaghniaaDoor.Tree
set_option linter.unusedVariables false
set_option linter.unusedSimpArgs false
open Go.RowKit Go.Proofs.YtfnofjcdaghniaaDoor.PL Go.Proofs.YtfnofjcdaghniaaDoor.Mt Go.Proofs.YtfnofjcdaghniaaDoorW.PrintWords Go.Proofs.YtfnofjcdaghniaaDoorW.PrintLast Go.Proofs.YtfnofjcdaghniaaDoorW.PrintMore
theorem pos_lt {l : List ByteArray} {n : ByteArray} {j : Nat} (hj : j < l.length) (h : j < posS l n) : ltB l[j] n = true := by
  have h1 : l[j] ∈ l.takeWhile (fun s => ltB s n) := by
    have h2 : (l.takeWhile (fun s => ltB s n)) <+: l := List.takeWhile_prefix _
    have h3 : j < (l.takeWhile (fun s => ltB s n)).length := h
    have h4 := h2.getElem h3
    rw [← h4]
    exact List.getElem_mem h3
  exact List.all_eq_true.1 (List.all_takeWhile (p := fun s => ltB s n) (l := l)) _ h1
theorem pos_not {l : List ByteArray} {n : ByteArray} (h : posS l n < l.length) : ltB l[posS l n] n = false := by
  induction l with
  | nil => simp at h
  | cons a l ih =>
    cases ha : ltB a n with
    | false =>
      have e : posS (a :: l) n = 0 := by unfold posS; rw [List.takeWhile_cons, if_neg (by rw [ha]; simp)]; rfl
      simp only [e]
      exact ha
    | true =>
      have e : posS (a :: l) n = posS l n + 1 := by unfold posS; rw [List.takeWhile_cons, if_pos ha]; rfl
      have h2 : posS l n < l.length := by rw [e, List.length_cons] at h; omega
      simp only [e, List.getElem_cons_succ]
      exact ih h2
theorem above {l : List ByteArray} {n : ByteArray} (hs : Srt l) (hh : hasS l n = false) {j : Nat} (hj : j < l.length) (h : posS l n ≤ j) : ltB n l[j] = true := by
  have hp : posS l n < l.length := by omega
  have h1 := pos_not hp
  have h2 : l[posS l n] ≠ n := fun e => by
    have : hasS l n = true := by unfold hasS; rw [List.getElem?_eq_getElem hp, e]; simp
    rw [hh] at this
    cases this
  have h3 : ltB n l[posS l n] = true := by
    cases h4 : ltB n l[posS l n] with
    | true => rfl
    | false => exact absurd (ltB_tri h1 h4) h2
  rcases Nat.eq_or_lt_of_le h with h5 | h5
  · simp only [← h5]; exact h3
  · exact ltB_trans h3 (hs.lt h5 hj)
theorem ins_srt {l : List ByteArray} {n : ByteArray} (hs : Srt l) (hh : hasS l n = false) : Srt (l.take (posS l n) ++ n :: l.drop (posS l n)) := by
  have hd : ∀ y ∈ l.drop (posS l n), ltB n y = true := by
    intro y hy
    obtain ⟨j, hj, rfl⟩ := List.getElem_of_mem hy
    rw [List.getElem_drop]
    exact above hs hh _ (by omega)
  have ht : ∀ y ∈ l.take (posS l n), ltB y n = true := by
    intro y hy
    obtain ⟨j, hj, rfl⟩ := List.getElem_of_mem hy
    rw [List.getElem_take]
    rw [List.length_take] at hj
    exact pos_lt _ (by omega)
  refine List.pairwise_append.2 ⟨hs.sublist (List.take_sublist _ _), List.pairwise_cons.2 ⟨hd, hs.sublist (List.drop_sublist _ _)⟩, fun x hx y hy => ?_⟩
  rcases List.mem_cons.1 hy with rfl | hy
  · exact ht x hx
  · exact ltB_trans (ht x hx) (hd y hy)
theorem has_mem {l : List ByteArray} {b : ByteArray} (hs : Srt l) : hasS l b = true ↔ b ∈ l := by
  constructor
  · intro h
    unfold hasS at h
    exact List.mem_of_getElem? (of_decide_eq_true h)
  · intro h
    obtain ⟨j, hj, e⟩ := List.getElem_of_mem h
    exact has_at hs hj e
theorem has_get {l : List ByteArray} {b : ByteArray} (h : hasS l b = true) : ∃ h9 : posS l b < l.length, l[posS l b] = b := by
  unfold hasS at h
  exact List.getElem?_eq_some_iff.1 (of_decide_eq_true h)
/-- a name beside the new one -/
theorem ins_other {l : List ByteArray} {a b : ByteArray} (hs : Srt l) (hh : hasS l a = false) (hne : b ≠ a) :
    hasS (l.take (posS l a) ++ a :: l.drop (posS l a)) b = hasS l b ∧ (hasS l b = true → posS (l.take (posS l a) ++ a :: l.drop (posS l a)) b = if posS l b < posS l a then posS l b else posS l b + 1) := by
  have hS := ins_srt hs hh
  have hle := posS_le l a
  cases hb : hasS l b with
  | false =>
    refine ⟨?_, fun h => by cases h⟩
    cases h9 : hasS (l.take (posS l a) ++ a :: l.drop (posS l a)) b with
    | false => rfl
    | true =>
      have h8 := (has_mem hS).1 h9
      rcases List.mem_append.1 h8 with h7 | h7
      · rw [(has_mem hs).2 (List.mem_of_mem_take h7)] at hb; cases hb
      · rcases List.mem_cons.1 h7 with h6 | h6
        · exact absurd h6 hne
        · rw [(has_mem hs).2 (List.mem_of_mem_drop h6)] at hb; cases hb
  | true =>
    obtain ⟨hj, he⟩ := has_get hb
    have hlen : (l.take (posS l a)).length = posS l a := by rw [List.length_take]; omega
    have hget : (l.take (posS l a) ++ a :: l.drop (posS l a))[if posS l b < posS l a then posS l b else posS l b + 1]? = some b := by
      by_cases h5 : posS l b < posS l a
      · rw [if_pos h5, List.getElem?_append_left (by omega), List.getElem?_take, if_pos h5, List.getElem?_eq_getElem hj, he]
      · rw [if_neg h5, List.getElem?_append_right (by omega), hlen, show posS l b + 1 - posS l a = (posS l b - posS l a) + 1 by omega, List.getElem?_cons_succ, List.getElem?_drop, show posS l a + (posS l b - posS l a) = posS l b by omega, List.getElem?_eq_getElem hj, he]
    obtain ⟨h3, h4⟩ := List.getElem?_eq_some_iff.1 hget
    exact ⟨has_at hS h3 h4, fun _ => pos_at hS h3 h4⟩
theorem ins_same {l : List ByteArray} {a : ByteArray} (hs : Srt l) (hh : hasS l a = false) : hasS (l.take (posS l a) ++ a :: l.drop (posS l a)) a = true ∧ posS (l.take (posS l a) ++ a :: l.drop (posS l a)) a = posS l a := by
  have hS := ins_srt hs hh
  have hle := posS_le l a
  have hlen : (l.take (posS l a)).length = posS l a := by rw [List.length_take]; omega
  have hget : (l.take (posS l a) ++ a :: l.drop (posS l a))[posS l a]? = some a := by
    rw [List.getElem?_append_right (by omega), hlen, Nat.sub_self]; rfl
  obtain ⟨h3, h4⟩ := List.getElem?_eq_some_iff.1 hget
  exact ⟨has_at hS h3 h4, pos_at hS h3 h4⟩
theorem take_min_cons {a b : ByteArray} {l m : List ByteArray} : (a :: l).take (min (a :: l).length (b :: m).length) ≠ (b :: m).take (min (a :: l).length (b :: m).length) ↔ a ≠ b ∨ l.take (min l.length m.length) ≠ m.take (min l.length m.length) := by
  rw [List.length_cons, List.length_cons, Nat.add_min_add_right, List.take_succ_cons, List.take_succ_cons]
  constructor
  · intro h
    by_cases hab : a = b
    · right; intro e; exact h (by rw [hab, e])
    · exact .inl hab
  · rintro (h | h) e
    · exact h (List.cons.inj e).1
    · exact h (List.cons.inj e).2
/-- what stands at another place is as it was -/
theorem at_else : ∀ (l m : List ByteArray) (N : Nat) (t x r : S26), Okt N t → putS l t x = (r, 0) → l.take (min l.length m.length) ≠ m.take (min l.length m.length) → atS m r = atS m t := by
  intro l
  induction l with
  | nil => intro m N t x r hO hp hne; simp at hne
  | cons a l ih =>
    intro m N t x r hO hp hne
    cases m with
    | nil => simp at hne
    | cons b m =>
      rw [take_min_cons] at hne
      obtain ⟨hs, -⟩ := OktS hO
      have hL := OktL hO
      have h2 : t.f0 = 2 := by
        by_cases h : t.f0 = 2
        · exact h
        · rw [putS, if_pos h] at hp
          have := (Prod.mk.inj hp).2
          simp at this
      cases hh : hasS t.f3 a with
      | true =>
        obtain ⟨ha1, ha2⟩ := has_get hh
        obtain ⟨⟨r1, k⟩, hr⟩ : ∃ q, putS l (t.f4.getD (posS t.f3 a) dir0) x = q := ⟨_, rfl⟩
        have hk : k = 0 := by
          by_cases hk : k = 0
          · exact hk
          · rw [putS_err_t h2 hh rfl hr hk] at hp; exact absurd (Prod.mk.inj hp).2 hk
        subst hk
        rw [putS_ok_t h2 hh rfl hr] at hp
        have he := (Prod.mk.inj hp).1
        subst he
        rw [atS, atS]
        cases hb : hasS t.f3 b with
        | false => rw [if_neg (by simp), if_neg (by simp)]
        | true =>
          rw [if_pos rfl, if_pos rfl]
          obtain ⟨hb1, hb2⟩ := has_get hb
          show atS m ((t.f4.set (posS t.f3 a) r1).getD (posS t.f3 b) dir0) = _
          by_cases hpp : posS t.f3 a = posS t.f3 b
          · have hab : a = b := by rw [← ha2, ← hb2]; simp only [hpp]
            have hin : posS t.f3 b < t.f4.length := by omega
            rw [hpp, List.getD_eq_getElem?_getD, List.getElem?_set_self hin, Option.getD_some]
            rw [hpp] at hr
            have hmem : t.f4.getD (posS t.f3 b) dir0 ∈ t.f4 := by rw [List.getD_eq_getElem?_getD, List.getElem?_eq_getElem hin]; exact List.getElem_mem hin
            exact ih m N _ x r1 (Okt_kid hO hmem) hr (by rcases hne with h | h; exact absurd hab h; exact h)
          · rw [List.getD_eq_getElem?_getD, List.getElem?_set_ne hpp, ← List.getD_eq_getElem?_getD]
      | false =>
        obtain ⟨⟨r1, k⟩, hr⟩ : ∃ q, putS l dir0 x = q := ⟨_, rfl⟩
        have hk : k = 0 := by
          by_cases hk : k = 0
          · exact hk
          · rw [putS_err_f h2 hh hr hk] at hp; exact absurd (Prod.mk.inj hp).2 hk
        subst hk
        rw [putS_ok_f h2 hh hr] at hp
        have he := (Prod.mk.inj hp).1
        subst he
        have hle := posS_le t.f3 a
        have hlen : (t.f4.take (posS t.f3 a)).length = posS t.f3 a := by rw [List.length_take]; omega
        rw [atS, atS]
        by_cases hab : b = a
        · subst hab
          obtain ⟨s1, s2⟩ := ins_same hs hh
          rw [if_pos s1, if_neg (by rw [hh]; simp)]
          show atS m ((t.f4.take (posS t.f3 b) ++ r1 :: t.f4.drop (posS t.f3 b)).getD (posS (t.f3.take (posS t.f3 b) ++ b :: t.f3.drop (posS t.f3 b)) b) dir0) = _
          rw [s2, List.getD_eq_getElem?_getD, List.getElem?_append_right (by omega), hlen, Nat.sub_self]
          show atS m r1 = (z0, 7)
          have h9 : l.take (min l.length m.length) ≠ m.take (min l.length m.length) := by rcases hne with h | h; exact absurd rfl h; exact h
          rw [ih m 1 dir0 x r1 Okt_dir0 hr h9]
          cases m with
          | nil => simp at h9
          | cons c m => rw [atS, if_neg (by simp [hasS, dir0])]
        · obtain ⟨o1, o2⟩ := ins_other hs hh hab
          show (if hasS (t.f3.take (posS t.f3 a) ++ a :: t.f3.drop (posS t.f3 a)) b = true then atS m ((t.f4.take (posS t.f3 a) ++ r1 :: t.f4.drop (posS t.f3 a)).getD (posS (t.f3.take (posS t.f3 a) ++ a :: t.f3.drop (posS t.f3 a)) b) dir0) else (z0, 7)) = _
          rw [o1]
          cases hb : hasS t.f3 b with
          | false => rw [if_neg (by simp), if_neg (by simp)]
          | true =>
            rw [if_pos rfl, if_pos rfl, o2 hb]
            congr 1
            rw [List.getD_eq_getElem?_getD, List.getD_eq_getElem?_getD]
            congr 1
            by_cases h5 : posS t.f3 b < posS t.f3 a
            · rw [if_pos h5, List.getElem?_append_left (by omega), List.getElem?_take, if_pos h5]
            · rw [if_neg h5, List.getElem?_append_right (by omega), hlen, show posS t.f3 b + 1 - posS t.f3 a = (posS t.f3 b - posS t.f3 a) + 1 by omega, List.getElem?_cons_succ, List.getElem?_drop, show posS t.f3 a + (posS t.f3 b - posS t.f3 a) = posS t.f3 b by omega]
theorem PutS_inv {N M : Nat} {t x r : S26} {p : ByteArray} (h : PutS N M t p x = (r, 0)) :
    (chk N t 1 0).1 = 0 ∧ (chk M x 1 0).1 = 0 ∧ (partsS p).all isE = true ∧ putS (partsS p) t x = (r, 0) ∧ (chk (N + M + (partsS p).length + 1) r 1 0).1 = 0 := by
  unfold PutS at h
  by_cases h1 : (chk N t 1 0).1 = 0
  · rw [if_neg (by simpa using h1)] at h
    by_cases h2 : (chk M x 1 0).1 = 0
    · rw [if_neg (by simpa using h2)] at h
      cases h3 : (partsS p).all isE with
      | false => rw [if_pos h3] at h; have := (Prod.mk.inj h).2; simp at this
      | true =>
        rw [if_neg (by rw [h3]; simp)] at h
        obtain ⟨⟨r1, k⟩, hr⟩ : ∃ q, putS (partsS p) t x = q := ⟨_, rfl⟩
        rw [hr] at h ⊢
        simp only at h
        by_cases hk : k = 0
        · subst hk
          rw [if_neg (by simp)] at h
          by_cases h5 : (chk (N + M + (partsS p).length + 1) r1 1 0).1 = 0
          · rw [if_neg (by simpa using h5)] at h
            have he := (Prod.mk.inj h).1
            subst he
            exact ⟨h1, h2, rfl, rfl, h5⟩
          · rw [if_pos h5] at h; exact absurd (Prod.mk.inj h).2 h5
        · rw [if_pos hk] at h; exact absurd (Prod.mk.inj h).2 hk
    · rw [if_pos h2] at h; exact absurd (Prod.mk.inj h).2 h2
  · rw [if_pos h1] at h; exact absurd (Prod.mk.inj h).2 h1
theorem AtS_else {N M : Nat} {t x r : S26} {p o : ByteArray} (hG : GT N t) (h : PutS N M t p x = (r, 0)) (hne : (partsS p).take (min (partsS p).length (partsS o).length) ≠ (partsS o).take (min (partsS p).length (partsS o).length)) :
    AtS (N + M + (partsS p).length + 1) r o = AtS N t o := by
  obtain ⟨h1, h2, h3, h4, h5⟩ := PutS_inv h
  unfold AtS
  rw [h1, h5, if_neg (show ¬ ((0 : Int) ≠ 0) by simp), if_neg (show ¬ ((0 : Int) ≠ 0) by simp), at_else (partsS p) (partsS o) N t x r (chk_okt N t 1 0 hG (by omega) h1) h4 hne]
end Go.Proofs.YtfnofjcdaghniaaDoor.Tree
/- boxes of one's own. Own work. -/
namespace Go.Proofs.YtfnofjcdaghniaaDoor.Tree
set_option linter.unusedVariables false
set_option linter.unusedSimpArgs false
open Go.RowKit Go.Proofs.YtfnofjcdaghniaaDoor.PL Go.Proofs.YtfnofjcdaghniaaDoor.Mt Go.Proofs.YtfnofjcdaghniaaDoorW.PrintWords Go.Proofs.YtfnofjcdaghniaaDoorW.PrintLast Go.Proofs.YtfnofjcdaghniaaDoorW.PrintMore
/-- boxes of one's own -/
structure BX (w wr : World) (L : List (Nat × Array Value)) : Prop where
  bel : Below w.heap.size w wr
  is : ∀ x ∈ L, w.heap.size ≤ x.1 ∧ wr.heap[x.1]? = some (.cells x.2 26 (0, 0))
theorem BX.nil {w wr : World} (h : Below w.heap.size w wr) : BX w wr [] := ⟨h, fun x hx => by simp at hx⟩
theorem BX.step {w wr w2 : World} {L : List (Nat × Array Value)} (h : BX w wr L) (hb : Below wr.heap.size wr w2) : BX w w2 L :=
  ⟨below_then h.bel h.bel.size hb, fun x hx => ⟨(h.is x hx).1, (hb.block _ (blk_lt (h.is x hx).2)).trans (h.is x hx).2⟩⟩
theorem BX.new {w wr : World} {L : List (Nat × Array Value)} (h : BX w wr L) (hl : w.heap.size ≤ wr.heap.size) (cs : Array Value) : BX w (wr.alloc (.cells cs 26)) ((wr.heap.size, cs) :: L) := by
  have hs := h.step (below_alloc (Below.refl _ wr) (.cells cs 26))
  refine ⟨hs.bel, fun x hx => ?_⟩
  rcases List.mem_cons.1 hx with rfl | hx
  · exact ⟨hl, heap_alloc_new wr _⟩
  · exact hs.is x hx
theorem BX.g0 {w wr : World} {a : Nat} {cs : Array Value} {L : List (Nat × Array Value)} (h : BX w wr ((a, cs) :: L)) : wr.heap[a]? = some (.cells cs 26 (0, 0)) := (h.is (a, cs) (List.mem_cons_self ..)).2
theorem BX.g1 {w wr : World} {a : Nat} {cs : Array Value} {x : Nat × Array Value} {L : List (Nat × Array Value)} (h : BX w wr (x :: (a, cs) :: L)) : wr.heap[a]? = some (.cells cs 26 (0, 0)) := (h.is (a, cs) (List.mem_cons_of_mem _ (List.mem_cons_self ..))).2
theorem BX.g2 {w wr : World} {a : Nat} {cs : Array Value} {x y : Nat × Array Value} {L : List (Nat × Array Value)} (h : BX w wr (x :: y :: (a, cs) :: L)) : wr.heap[a]? = some (.cells cs 26 (0, 0)) := (h.is (a, cs) (List.mem_cons_of_mem _ (List.mem_cons_of_mem _ (List.mem_cons_self ..)))).2
theorem atS_GT : ∀ (l : List ByteArray) (N : Nat) (t : S26), GT N t → Okt N t → ∃ L, GT L (atS l t).1 := by
  intro l
  induction l with
  | nil => intro N t h _; exact ⟨N, h⟩
  | cons a l ih =>
    intro N t h hO
    rw [atS]
    cases hh : hasS t.f3 a with
    | false => rw [if_neg (by simp)]; exact ⟨1, GT_z0⟩
    | true =>
      rw [if_pos rfl]
      obtain ⟨h1, -⟩ := has_get hh
      have hL := OktL hO
      have hin : posS t.f3 a < t.f4.length := by omega
      have hm : t.f4.getD (posS t.f3 a) dir0 ∈ t.f4 := by rw [List.getD_eq_getElem?_getD, List.getElem?_eq_getElem hin]; exact List.getElem_mem hin
      exact ih N _ (GT_kid h hm) (Okt_kid hO hm)
theorem AtS_GT {N : Nat} {t : S26} {p : ByteArray} (h : GT N t) : ∃ L, GT L (AtS N t p).1 := by
  unfold AtS
  by_cases h1 : (chk N t 1 0).1 = 0
  · rw [if_neg (by simpa using h1)]
    cases h3 : (partsS p).all isE with
    | false => exact ⟨1, GT_z0⟩
    | true => rw [if_neg (by simp)]; exact atS_GT _ N t h (chk_okt N t 1 0 h (by omega) h1)
  · rw [if_pos h1]; exact ⟨1, GT_z0⟩
end Go.Proofs.YtfnofjcdaghniaaDoor.Tree
/- a tree that may be written over: its shape alone, and what keeps it. Own work. -/
namespace Go.Proofs.YtfnofjcdaghniaaDoor.Tree
set_option linter.unusedVariables false
set_option linter.unusedSimpArgs false
open Go.RowKit Go.Proofs.YtfnofjcdaghniaaDoor.PL Go.Proofs.YtfnofjcdaghniaaDoor.Mt Go.Proofs.YtfnofjcdaghniaaDoorW.PrintWords Go.Proofs.YtfnofjcdaghniaaDoorW.PrintLast Go.Proofs.YtfnofjcdaghniaaDoorW.PrintMore
def ZL : List Value := [.int .i64 (-1), .bool false, .slice none 0 0, .slice none 0 0, .slice none 0 0]
/-- a block's cells keep their kinds -/
structure TyB (cs cs' : Array Value) (ty : Nat) : Prop where
  size : cs'.size = cs.size
  b : ty = 5 → ∀ (i : Nat) (x : Int), cs[i]? = some (.int .u8 x) → ∃ y, cs'[i]? = some (.int .u8 y)
  s : ty = 9 → ∀ (i : Nat) (x : ByteArray), cs[i]? = some (.string x) → ∃ y, cs'[i]? = some (.string y)
  t : ty = 26 → ∀ i : Nat, (∀ j, j < 5 → cs'[i * 5 + j]? = cs[i * 5 + j]?) ∨ (∀ j, j < 5 → cs'[i * 5 + j]? = ZL[j]?)
theorem TyB.refl (cs : Array Value) (ty : Nat) : TyB cs cs ty := ⟨rfl, fun _ i x h => ⟨x, h⟩, fun _ i x h => ⟨x, h⟩, fun _ i => .inl fun _ _ => rfl⟩
theorem TyB.trans {a b c : Array Value} {ty : Nat} (h : TyB a b ty) (k : TyB b c ty) : TyB a c ty := by
  refine ⟨k.size.trans h.size, fun e i x hx => ?_, fun e i x hx => ?_, fun e i => ?_⟩
  · obtain ⟨y, hy⟩ := h.b e i x hx; exact k.b e i y hy
  · obtain ⟨y, hy⟩ := h.s e i x hx; exact k.s e i y hy
  · rcases k.t e i with h1 | h1
    · rcases h.t e i with h2 | h2
      · exact .inl fun j hj => (h1 j hj).trans (h2 j hj)
      · exact .inr fun j hj => (h1 j hj).trans (h2 j hj)
    · exact .inr h1
/-- outside [lo, hi) nothing is changed, inside no cell's kind -/
structure Ty (lo hi : Nat) (w w' : World) : Prop where
  os : w'.os = w.os
  tape : w'.tape = w.tape
  output : w'.output = w.output
  size : w.heap.size ≤ w'.heap.size
  out : ∀ k, k < w.heap.size → (k < lo ∨ hi ≤ k) → w'.heap[k]? = w.heap[k]?
  in_ : ∀ (k ty : Nat) (cs : Array Value), lo ≤ k → k < hi → w.heap[k]? = some (.cells cs ty (0, 0)) → ∃ cs', w'.heap[k]? = some (.cells cs' ty (0, 0)) ∧ TyB cs cs' ty
theorem Ty.of_below {lo hi : Nat} {w w' : World} (h : Below w.heap.size w w') : Ty lo hi w w' :=
  ⟨h.os, h.tape, h.output, h.size, fun k hk _ => h.block k hk, fun k ty cs _ _ hb => ⟨cs, (h.block k (blk_lt hb)).trans hb, TyB.refl _ _⟩⟩
theorem Ty.refl (lo hi : Nat) (w : World) : Ty lo hi w w := Ty.of_below (Below.refl _ w)
theorem Ty.trans {lo hi : Nat} {a b c : World} (h : Ty lo hi a b) (k : Ty lo hi b c) : Ty lo hi a c := by
  refine ⟨k.os.trans h.os, k.tape.trans h.tape, k.output.trans h.output, Nat.le_trans h.size k.size, fun i hi' ho => (k.out i (Nat.lt_of_lt_of_le hi' h.size) ho).trans (h.out i hi' ho), fun i ty cs h1 h2 hb => ?_⟩
  obtain ⟨cs', hb', t1⟩ := h.in_ i ty cs h1 h2 hb
  obtain ⟨cs'', hb'', t2⟩ := k.in_ i ty cs' h1 h2 hb'
  exact ⟨cs'', hb'', t1.trans t2⟩
theorem Ty.below {lo hi : Nat} {w w' : World} (h : Ty lo hi w w') (hl : lo ≤ w.heap.size) : Below lo w w' :=
  ⟨h.os, h.tape, h.output, h.size, fun k hk => h.out k (by omega) (.inl hk)⟩
/-- one cell inside is written -/
theorem Ty.set {lo hi : Nat} {w : World} {g o ty : Nat} {cur : Array Value} {v : Value} (hb : w.heap[g]? = some (.cells cur ty (0, 0))) (hl : lo ≤ g) (hh : g < hi) (ht : TyB cur (cur.setIfInBounds o v) ty) : Ty lo hi w (w.setCell ⟨g, o, none⟩ v) := by
  refine ⟨rfl, rfl, rfl, by simp [World.setCell], fun k hk ho => Below.heap_setCell w ⟨g, o, none⟩ v k (by rintro rfl; omega), fun k ty' cs h1 h2 hb' => ?_⟩
  by_cases hk : k = g
  · subst hk
    rw [hb] at hb'
    injection hb' with e
    injection e with e1 e2 e3
    subst e1 e2
    exact ⟨_, blk_set hb o v, ht⟩
  · exact ⟨cs, blk_far hb' hk v, TyB.refl _ _⟩
theorem TyB.byte {cur : Array Value} {o : Nat} {x y : Int} (h : cur[o]? = some (.int .u8 x)) : TyB cur (cur.setIfInBounds o (.int .u8 y)) 5 := by
  have ho : o < cur.size := (Array.getElem?_eq_some_iff.1 h).1
  refine ⟨by simp, fun _ i z hz => ?_, fun e => absurd e (by decide), fun e => absurd e (by decide)⟩
  rw [Array.getElem?_setIfInBounds]
  by_cases hi : o = i
  · rw [if_pos hi, if_pos ho]; exact ⟨y, rfl⟩
  · rw [if_neg hi]; exact ⟨z, hz⟩
theorem TyB.str {cur : Array Value} {o : Nat} {x y : ByteArray} (h : cur[o]? = some (.string x)) : TyB cur (cur.setIfInBounds o (.string y)) 9 := by
  have ho : o < cur.size := (Array.getElem?_eq_some_iff.1 h).1
  refine ⟨by simp, fun e => absurd e (by decide), fun _ i z hz => ?_, fun e => absurd e (by decide)⟩
  rw [Array.getElem?_setIfInBounds]
  by_cases hi : o = i
  · rw [if_pos hi, if_pos ho]; exact ⟨y, rfl⟩
  · rw [if_neg hi]; exact ⟨z, hz⟩
/-- the five stores of an empty tree -/
def zset (cur : Array Value) (i : Nat) : Array Value := ((((cur.setIfInBounds (i * 5) (.int .i64 (-1))).setIfInBounds (i * 5 + 1) (.bool false)).setIfInBounds (i * 5 + 2) (.slice none 0 0)).setIfInBounds (i * 5 + 3) (.slice none 0 0)).setIfInBounds (i * 5 + 4) (.slice none 0 0)
theorem zset_in {cur : Array Value} {i : Nat} (h : i * 5 + 4 < cur.size) : ∀ j, j < 5 → (zset cur i)[i * 5 + j]? = ZL[j]? := by
  intro j hj
  unfold zset
  match j, hj with
  | 0, _ => simp [Array.getElem?_setIfInBounds, ZL]; omega
  | 1, _ => simp [Array.getElem?_setIfInBounds, ZL]; omega
  | 2, _ => simp [Array.getElem?_setIfInBounds, ZL]; omega
  | 3, _ => simp [Array.getElem?_setIfInBounds, ZL]; omega
  | 4, _ => simp [Array.getElem?_setIfInBounds, ZL]; omega
theorem zset_out {cur : Array Value} {i k : Nat} (h : k < i * 5 ∨ i * 5 + 5 ≤ k) : (zset cur i)[k]? = cur[k]? := by
  unfold zset
  rw [Array.getElem?_setIfInBounds_ne (by omega), Array.getElem?_setIfInBounds_ne (by omega), Array.getElem?_setIfInBounds_ne (by omega), Array.getElem?_setIfInBounds_ne (by omega), Array.getElem?_setIfInBounds_ne (by omega)]
theorem TyB.zero {cur : Array Value} {i : Nat} (h : i * 5 + 4 < cur.size) : TyB cur (zset cur i) 26 := by
  refine ⟨by simp [zset], fun e => absurd e (by decide), fun e => absurd e (by decide), fun _ k => ?_⟩
  by_cases hk : k = i
  · subst hk; exact .inr (zset_in h)
  · exact .inl fun j hj => zset_out (by omega)
abbrev zworld (w : World) (g i : Nat) : World := ((((w.setCell ⟨g, i * 5, none⟩ (.int .i64 (-1))).setCell ⟨g, i * 5 + 1, none⟩ (.bool false)).setCell ⟨g, i * 5 + 2, none⟩ (.slice none 0 0)).setCell ⟨g, i * 5 + 3, none⟩ (.slice none 0 0)).setCell ⟨g, i * 5 + 4, none⟩ (.slice none 0 0)
theorem blk_zset {w : World} {g i : Nat} {cur : Array Value} (hb : w.heap[g]? = some (.cells cur 26 (0, 0))) : (zworld w g i).heap[g]? = some (.cells (zset cur i) 26 (0, 0)) :=
  blk_set (blk_set (blk_set (blk_set (blk_set hb _ _) _ _) _ _) _ _) _ _
theorem Ty.zero {lo hi : Nat} {w : World} {g i : Nat} {cur : Array Value} (hb : w.heap[g]? = some (.cells cur 26 (0, 0))) (hl : lo ≤ g) (hh : g < hi) (h : i * 5 + 4 < cur.size) : Ty lo hi w (zworld w g i) := by
  have st : ∀ (W : World) (j : Nat) (v : Value) (k : Nat), k ≠ g → (W.setCell ⟨g, j, none⟩ v).heap[k]? = W.heap[k]? := fun W j v k hk => Below.heap_setCell W ⟨g, j, none⟩ v k hk
  have far : ∀ k, k ≠ g → (zworld w g i).heap[k]? = w.heap[k]? := fun k hk => by
    rw [st _ _ _ k hk, st _ _ _ k hk, st _ _ _ k hk, st _ _ _ k hk, st _ _ _ k hk]
  refine ⟨by simp [zworld, World.setCell], by simp [zworld, World.setCell], by simp [zworld, World.setCell], by simp [zworld, World.setCell], fun k hk ho => far k (by rintro rfl; omega), fun k ty' cs h1 h2 hb' => ?_⟩
  by_cases hk : k = g
  · subst hk
    rw [hb] at hb'
    injection hb' with e
    injection e with e1 e2 e3
    subst e1 e2
    exact ⟨_, blk_zset hb, TyB.zero h⟩
  · exact ⟨cs, (far k hk).trans hb', TyB.refl _ _⟩
/-- facts for the five stores -/
theorem zfacts {w : World} {g i : Nat} {cur : Array Value} (hb : w.heap[g]? = some (.cells cur 26 (0, 0))) (hlt : i * 5 + 4 < cur.size) (x0 x1 x2 x3 x4 : Value) :
    (∃ c0, w.cell? ⟨g, i * 5, none⟩ = some c0 ∧ w.frozen? ⟨g, i * 5, none⟩ = false) ∧ (∃ c1, (w.setCell ⟨g, i * 5, none⟩ x0).cell? ⟨g, i * 5 + 1, none⟩ = some c1 ∧ (w.setCell ⟨g, i * 5, none⟩ x0).frozen? ⟨g, i * 5 + 1, none⟩ = false) ∧ (∃ c2, ((w.setCell ⟨g, i * 5, none⟩ x0).setCell ⟨g, i * 5 + 1, none⟩ x1).cell? ⟨g, i * 5 + 2, none⟩ = some c2 ∧ ((w.setCell ⟨g, i * 5, none⟩ x0).setCell ⟨g, i * 5 + 1, none⟩ x1).frozen? ⟨g, i * 5 + 2, none⟩ = false) ∧ (∃ c3, (((w.setCell ⟨g, i * 5, none⟩ x0).setCell ⟨g, i * 5 + 1, none⟩ x1).setCell ⟨g, i * 5 + 2, none⟩ x2).cell? ⟨g, i * 5 + 3, none⟩ = some c3 ∧ (((w.setCell ⟨g, i * 5, none⟩ x0).setCell ⟨g, i * 5 + 1, none⟩ x1).setCell ⟨g, i * 5 + 2, none⟩ x2).frozen? ⟨g, i * 5 + 3, none⟩ = false) ∧ (∃ c4, ((((w.setCell ⟨g, i * 5, none⟩ x0).setCell ⟨g, i * 5 + 1, none⟩ x1).setCell ⟨g, i * 5 + 2, none⟩ x2).setCell ⟨g, i * 5 + 3, none⟩ x3).cell? ⟨g, i * 5 + 4, none⟩ = some c4 ∧ ((((w.setCell ⟨g, i * 5, none⟩ x0).setCell ⟨g, i * 5 + 1, none⟩ x1).setCell ⟨g, i * 5 + 2, none⟩ x2).setCell ⟨g, i * 5 + 3, none⟩ x3).frozen? ⟨g, i * 5 + 4, none⟩ = false) := by
  have b1 := blk_set hb (i * 5) x0
  have b2 := blk_set b1 (i * 5 + 1) x1
  have b3 := blk_set b2 (i * 5 + 2) x2
  have b4 := blk_set b3 (i * 5 + 3) x3
  exact ⟨cell_ex hb (by omega), cell_ex b1 (by simp; omega), cell_ex b2 (by simp; omega), cell_ex b3 (by simp; omega), cell_ex b4 (by simp; omega)⟩
/-- a row inside -/
def RowT (w : World) (lo hi ty : Nat) (A : Option Addr) (n : Nat) (P : Array Value → Nat → Prop) : Prop :=
  n ≤ 1000000000000000 ∧ (0 < n → ∃ g cur, A = some ⟨g, 0, none⟩ ∧ lo ≤ g ∧ g < hi ∧ w.heap[g]? = some (.cells cur ty (0, 0)) ∧ ∀ i, i < n → P cur i)
def PB (cur : Array Value) (i : Nat) : Prop := ∃ x : Int, cur[i]? = some (.int .u8 x)
def PS (cur : Array Value) (i : Nat) : Prop := ∃ x : ByteArray, cur[i]? = some (.string x)
/-- the shape of a tree whose rows lie inside -/
def Sh : Nat → World → Nat → Nat → List Value → Prop
  | 0, _, _, _, _ => False
  | N + 1, w, lo, hi, cs => ∃ (k : Int) (b : Bool) (A2 : Option Addr) (n2 c2 : Nat) (A3 : Option Addr) (n3 c3 : Nat) (A4 : Option Addr) (n4 c4 : Nat),
      cs = [.int .i64 k, .bool b, .slice A2 n2 c2, .slice A3 n3 c3, .slice A4 n4 c4] ∧ RowT w lo hi 5 A2 n2 PB ∧ RowT w lo hi 9 A3 n3 PS ∧
      RowT w lo hi 26 A4 n4 (fun cur i => i * 5 + 4 < cur.size ∧ ∃ ds : List Value, (∀ j, j < 5 → cur[i * 5 + j]? = ds[j]?) ∧ Sh N w lo hi ds)
theorem RowT.nil (w : World) (lo hi ty : Nat) (A : Option Addr) (P : Array Value → Nat → Prop) : RowT w lo hi ty A 0 P := ⟨by omega, fun h => absurd h (by omega)⟩
theorem Sh.zero (N : Nat) (w : World) (lo hi : Nat) : Sh (N + 1) w lo hi ZL := ⟨-1, false, none, 0, 0, none, 0, 0, none, 0, 0, rfl, RowT.nil _ _ _ _ _ _, RowT.nil _ _ _ _ _ _, RowT.nil _ _ _ _ _ _⟩
theorem RowT.ty {w w' : World} {lo hi ty : Nat} {A : Option Addr} {n : Nat} {P P' : Array Value → Nat → Prop} (h : RowT w lo hi ty A n P) (ht : Ty lo hi w w') (hP : ∀ cur cur' i, i < n → TyB cur cur' ty → P cur i → P' cur' i) : RowT w' lo hi ty A n P' := by
  refine ⟨h.1, fun h0 => ?_⟩
  obtain ⟨g, cur, e, hl, hh, hb, hp⟩ := h.2 h0
  obtain ⟨cur', hb', hty⟩ := ht.in_ g ty cur hl hh hb
  exact ⟨g, cur', e, hl, hh, hb', fun i hi => hP cur cur' i hi hty (hp i hi)⟩
theorem Sh.ty : ∀ {N : Nat} {w w' : World} {lo hi : Nat} {cs : List Value}, Sh N w lo hi cs → Ty lo hi w w' → Sh N w' lo hi cs := by
  intro N
  induction N with
  | zero => intro w w' lo hi cs h; exact h.elim
  | succ N ih =>
    intro w w' lo hi cs h ht
    obtain ⟨k, b, A2, n2, c2, A3, n3, c3, A4, n4, c4, rfl, r2, r3, r4⟩ := h
    refine ⟨k, b, A2, n2, c2, A3, n3, c3, A4, n4, c4, rfl, r2.ty ht (fun cur cur' i hi h1 ⟨x, hx⟩ => h1.b rfl i x hx), r3.ty ht (fun cur cur' i hi h1 ⟨x, hx⟩ => h1.s rfl i x hx), r4.ty ht (fun cur cur' i hi h1 ⟨hsz, ds, hd, hs⟩ => ?_)⟩
    refine ⟨by rw [h1.size]; exact hsz, ?_⟩
    rcases h1.t rfl i with h2 | h2
    · exact ⟨ds, fun j hj => (h2 j hj).trans (hd j hj), ih hs ht⟩
    · cases N with
      | zero => exact hs.elim
      | succ N => exact ⟨ZL, h2, Sh.zero _ _ _ _⟩
theorem RowT.of_own {w : World} {base ty sz : Nat} {v : Value} {n c : Nat} {A : Option Addr} {xs : List Value} {P : Array Value → Nat → Prop} (h : w.ownsRow base ty sz (.slice A n c) n xs) (hn : n ≤ 1000000000000000) (hP : ∀ cur : Array Value, n * sz ≤ cur.size → cur.toList.take (n * sz) = xs → ∀ i, i < n → P cur i) : RowT w base w.heap.size ty A n P := by
  refine ⟨hn, fun h0 => ?_⟩
  rcases h.2 with ⟨_, hz⟩ | ⟨g, cap, cur, e, hg, hb, h1, h2, h3, h4⟩
  · omega
  · injection e with e1 e2 e3
    refine ⟨g, cur, e1, hg, blk_lt hb, hb, hP cur (by rw [h3]; exact Nat.mul_le_mul_right _ h1) h4⟩
theorem Sh.of_M : ∀ (N : Nat) (t : S26) (w : World) (base : Nat) (ok : Nat → Prop) (cs : List Value), GT N t → k26.M w base ok t cs → Sh N w base w.heap.size cs := by
  intro N
  induction N with
  | zero => intro t w base ok cs h; exact h.elim
  | succ N ih =>
    intro t w base ok cs hG hM
    obtain ⟨v2, v3, v4, rfl, r2, r3, r4⟩ := k26_openM hM
    obtain ⟨A2, c2, rfl⟩ := Kd.R_slice r2
    obtain ⟨A3, c3, rfl⟩ := Kd.R_slice r3
    obtain ⟨A4, c4, rfl⟩ := Kd.R_slice r4
    have b2 := hG.2.1.2.1
    have b3 := hG.2.2.1.2.1
    have b4 := hG.2.2.2.2.1
    refine ⟨_, _, A2, _, c2, A3, _, c3, A4, _, c4, rfl, RowT.of_own (v := .slice none 0 0) (Kd.own_of_R r2) (by omega) (fun cur hs hx i hi => ?_), RowT.of_own (v := .slice none 0 0) (Kd.own_of_R r3) (by omega) (fun cur hs hx i hi => ?_), ?_⟩
    · refine ⟨t.f2[i], ?_⟩
      have h1 : (cur.toList.take (t.f2.length * 1))[i]? = some (.int .u8 t.f2[i]) := by rw [hx]; simp [encs, hi]
      rw [List.getElem?_take, if_pos (by omega), Array.getElem?_toList] at h1
      exact h1
    · refine ⟨t.f3[i], ?_⟩
      have h1 : (cur.toList.take (t.f3.length * 1))[i]? = some (.string t.f3[i]) := by rw [hx]; simp [encs, hi]
      rw [List.getElem?_take, if_pos (by omega), Array.getElem?_toList] at h1
      exact h1
    · obtain ⟨_, inner, hown, hr⟩ := r4
      refine RowT.of_own (v := .slice none 0 0) hown (by omega) (fun cur hs hx i hi => ?_)
      have hs5 : t.f4.length * 5 ≤ cur.size := hs
      have hx5 : cur.toList.take (t.f4.length * 5) = inner := hx
      refine ⟨by omega, (inner.drop (i * 5)).take 5, fun j hj => ?_, ih t.f4[i] w base _ _ (hG.2.2.2.2.2 _ (List.getElem_mem hi)) (hr.2 i t.f4[i] (List.getElem?_eq_getElem hi))⟩
      rw [List.getElem?_take, if_pos hj, List.getElem?_drop, ← hx5, List.getElem?_take, if_pos (by omega), Array.getElem?_toList]
theorem Sh.of_OT {N : Nat} {t : S26} {w : World} {base : Nat} {v2 v3 v4 : Value} (hG : GT N t) (h : OT w base t v2 v3 v4) : Sh N w base w.heap.size [.int .i64 t.f0, .bool t.f1, v2, v3, v4] :=
  Sh.of_M N t w base (fun _ => True) _ hG (k26_mkM w base _ t h.1 h.2.1 (Kd.R_mono h.2.2 (fun _ _ => trivial)))
end Go.Proofs.YtfnofjcdaghniaaDoor.Tree
/- spoilt, walked. Own work; printed by gen_sp.py. -/
namespace Go.Proofs.YtfnofjcdaghniaaDoor.Tree
set_option linter.unusedVariables false
set_option linter.unusedSimpArgs false
open Go.RowKit Go.Proofs.YtfnofjcdaghniaaDoor.PL Go.Proofs.YtfnofjcdaghniaaDoor.Mt Go.Proofs.YtfnofjcdaghniaaDoorW.PrintWords Go.Proofs.YtfnofjcdaghniaaDoorW.PrintLast Go.Proofs.YtfnofjcdaghniaaDoorW.PrintMore
def SPC (lo hi N : Nat) : Prop := ∀ (cs : List Value) (w : World), Sh N w lo hi cs → hi ≤ w.heap.size →
  Calls Tryd.prog 21 #[.agg cs.toArray] w fun e w' => e = .returned (.tuple #[]) ∧ Ty lo hi w w'
/-- the box and what is changed -/
structure PX (lo hi : Nat) (w wr : World) (p : Nat) (bx : Obj) : Prop where
  bp : wr.heap[p]? = some bx
  ty : Ty lo hi w wr
theorem PX.go {lo hi p : Nat} {w wr w2 : World} {bx : Obj} (h : PX lo hi w wr p bx) (hp : hi ≤ p) (t : Ty lo hi wr w2) : PX lo hi w w2 p bx := ⟨(t.out p (blk_lt h.bp) (.inr hp)).trans h.bp, h.ty.trans t⟩
theorem PX.drew {lo hi p : Nat} {w wr : World} {bx : Obj} (h : PX lo hi w wr p bx) : PX lo hi w wr.drew p bx := ⟨h.bp, h.ty.trans (Ty.of_below (below_drew (Below.refl _ wr)))⟩
set_option maxRecDepth 20000 in
set_option maxHeartbeats 4000000 in
theorem spoilt_step (lo hi N : Nat) (ih : SPC lo hi N) : SPC lo hi (N + 1) := by
  intro cs w hSh hw
  have HSH := Aside0.mk hSh
  obtain ⟨k0, b0, A2, n2, c2, A3, n3, c3, A4, n4, c4, rfl, hr2, hr3, hr4⟩ := hSh
  have l2 := hr2.1
  have l3 := hr3.1
  have l4 := hr4.1
  have HR2 := Aside0.mk hr2
  have HR3 := Aside0.mk hr3
  have HR4 := Aside0.mk hr4
  have IH := Aside0.mk ih
  have HPX : Aside0 (PX lo hi w (w.alloc (.cells #[.int .i64 k0, .bool b0, .slice A2 n2 c2, .slice A3 n3 c3, .slice A4 n4 c4] 26)) w.heap.size (.cells #[.int .i64 k0, .bool b0, .slice A2 n2 c2, .slice A3 n3 c3, .slice A4 n4 c4] 26)) := ⟨⟨heap_alloc_new w _, Ty.of_below (below_alloc (Below.refl _ w) _)⟩⟩
  clear hr2 hr3 hr4 ih
  show Calls Tryd.prog 21 #[.agg #[.int .i64 k0, .bool b0, .slice A2 n2 c2, .slice A3 n3 c3, .slice A4 n4 c4]] w _
  go_enter Tryd.func21, Tryd.ntmps21
  go_upto_region 1 with fail
  generalize (w.alloc (.cells #[.int .i64 k0, .bool b0, .slice A2 n2 c2, .slice A3 n3 c3, .slice A4 n4 c4] 26)) = w1 at *
  obtain ⟨p, hp⟩ : ∃ q, w.heap.size = q := ⟨_, rfl⟩
  rw [hp] at HPX hw ⊢
  have HHP := Aside0.mk hw
  clear hp hw
  go_wp2_with fail
  go_loopw [2] (fun v wr => ∃ i : Nat, v = .int .i64 (i : Int) ∧ i ≤ n2 ∧ Aside0 (PX lo hi w wr p (.cells #[.int .i64 k0, .bool b0, .slice A2 n2 c2, .slice A3 n3 c3, .slice A4 n4 c4] 26))) (fun v _ => n2 - (intOf v).toNat)
  case atStart => exact ⟨0, rfl, Nat.zero_le _, HPX⟩
  case round =>
    clear HPX
    obtain ⟨i, rfl, hi', HPX⟩ := hrel
    obtain ⟨x0, x1, x2, x3, x4⟩ := cells5 HPX.out.bp
    by_cases hlt : i < n2
    · have hlt' : (i : Int) < (n2 : Int) := by omega
      obtain ⟨g, cur, rfl, hl, hh, hb, hq⟩ := (HR2.out.ty HPX.out.ty (P' := PB) (fun cur cur' i hi h1 ⟨x, hx⟩ => h1.b rfl i x hx)).2 (by omega)
      obtain ⟨x, hx⟩ := hq i hlt
      have hc : wr.cell? ⟨g, i, none⟩ = some (.int .u8 x) := (blk_cell hb i).trans hx
      have hf := blk_frozen hb i
      have hbd : wr.drew.heap[g]? = some (.cells cur 5 (0, 0)) := hb
      have HS : Aside0 (∀ y : Int, PX lo hi w (wr.drew.setCell ⟨g, i, none⟩ (.int .u8 y)) p _) := ⟨fun y => HPX.out.drew.go HHP.out (Ty.set hbd hl hh (TyB.byte hx))⟩
      have hcd : wr.drew.cell? ⟨g, i, none⟩ = some (.int .u8 x) := hc
      have hfd : wr.drew.frozen? ⟨g, i, none⟩ = false := hf
      have HG := Aside0.mk (And.intro hb (And.intro hx hq))
      clear hb hx hq hbd
      go_upto_region 4 with fail
      go_still_tail 10, (by kernel_rfl)
      change wpList _ _ _ _ _ wr.drew
      go_wp2_with fail
      exact ⟨⟨i + 1, by go_num, by omega, ⟨HS.out _⟩⟩, by simp [intOf]; omega⟩
    · have hlt' : ¬ (i : Int) < (n2 : Int) := by omega
      go_wp2_with fail
      clear x0 x1 x2 x3 x4
      go_loopw [3] (fun v wr => ∃ i : Nat, v = .int .i64 (i : Int) ∧ i ≤ n3 ∧ Aside0 (PX lo hi w wr p (.cells #[.int .i64 k0, .bool b0, .slice A2 n2 c2, .slice A3 n3 c3, .slice A4 n4 c4] 26))) (fun v _ => n3 - (intOf v).toNat)
      case atStart => exact ⟨0, rfl, Nat.zero_le _, HPX⟩
      case round =>
        clear HPX
        obtain ⟨i, rfl, hi', HPX⟩ := hrel
        obtain ⟨x0, x1, x2, x3, x4⟩ := cells5 HPX.out.bp
        by_cases hlt : i < n3
        · have hlt' : (i : Int) < (n3 : Int) := by omega
          obtain ⟨g, cur, rfl, hl, hh, hb, hq⟩ := (HR3.out.ty HPX.out.ty (P' := PS) (fun cur cur' i hi h1 ⟨x, hx⟩ => h1.s rfl i x hx)).2 (by omega)
          obtain ⟨x, hx⟩ := hq i hlt
          have hc : wr.cell? ⟨g, i, none⟩ = some (.string x) := (blk_cell hb i).trans hx
          have hf := blk_frozen hb i
          have HS : Aside0 (∀ y : ByteArray, PX lo hi w (wr.setCell ⟨g, i, none⟩ (.string y)) p _) := ⟨fun y => HPX.out.go HHP.out (Ty.set hb hl hh (TyB.str hx))⟩
          have HG := Aside0.mk (And.intro hb (And.intro hx hq))
          clear hb hx hq
          go_wp2_with fail
          exact ⟨⟨i + 1, by go_num, by omega, ⟨HS.out _⟩⟩, by simp [intOf]; omega⟩
        · have hlt' : ¬ (i : Int) < (n3 : Int) := by omega
          go_wp2_with fail
          clear x0 x1 x2 x3 x4
          go_loopw [4] (fun v wr => ∃ i : Nat, v = .int .i64 (i : Int) ∧ i ≤ n4 ∧ Aside0 (PX lo hi w wr p (.cells #[.int .i64 k0, .bool b0, .slice A2 n2 c2, .slice A3 n3 c3, .slice A4 n4 c4] 26))) (fun v _ => n4 - (intOf v).toNat)
          case atStart => exact ⟨0, rfl, Nat.zero_le _, HPX⟩
          case round =>
            clear HPX
            obtain ⟨i, rfl, hi', HPX⟩ := hrel
            obtain ⟨x0, x1, x2, x3, x4⟩ := cells5 HPX.out.bp
            by_cases hlt : i < n4
            · have hlt' : (i : Int) < (n4 : Int) := by omega
              obtain ⟨N', hN⟩ : ∃ N', N = N' + 1 := by
                obtain ⟨g, cur, -, -, -, -, hq⟩ := HR4.out.2 (by omega)
                obtain ⟨-, ds, -, hs⟩ := hq i hlt
                cases N with
                | zero => exact hs.elim
                | succ N => exact ⟨N, rfl⟩
              obtain ⟨j0, j1, J2, m2, e2, J3, m3, e3, J4, m4, e4, hcs, hr2', hr3', hr4'⟩ := HSH.out.ty HPX.out.ty
              obtain ⟨h1, h2, h3, h4, h5⟩ : k0 = j0 ∧ b0 = j1 ∧ (A2 = J2 ∧ n2 = m2 ∧ c2 = e2) ∧ (A3 = J3 ∧ n3 = m3 ∧ c3 = e3) ∧ (A4 = J4 ∧ n4 = m4 ∧ c4 = e4) := by simpa using hcs
              obtain ⟨rfl, rfl, rfl⟩ := h5
              clear hcs h1 h2 h3 h4 hr2' hr3'
              obtain ⟨g, cur, hA4, hl, hh, hb, hq⟩ := hr4'.2 (by omega)
              obtain ⟨hsz, ds, hds, hs⟩ := hq i hlt
              have HSD := Aside0.mk hs
              rw [hN] at hs
              obtain ⟨u0, u1, U2, v2, z2, U3, v3, z3, U4, v4, z4, rfl, -, -, -⟩ := hs
              subst hA4
              have y0 : wr.cell? ⟨g, i * 5, none⟩ = some (.int .i64 u0) := (blk_cell hb (i * 5)).trans (hds 0 (by omega))
              have y1 : wr.cell? ⟨g, i * 5 + 1, none⟩ = some (.bool u1) := (blk_cell hb (i * 5 + 1)).trans (hds 1 (by omega))
              have y2 : wr.cell? ⟨g, i * 5 + 2, none⟩ = some (.slice U2 v2 z2) := (blk_cell hb (i * 5 + 2)).trans (hds 2 (by omega))
              have y3 : wr.cell? ⟨g, i * 5 + 3, none⟩ = some (.slice U3 v3 z3) := (blk_cell hb (i * 5 + 3)).trans (hds 3 (by omega))
              have y4 : wr.cell? ⟨g, i * 5 + 4, none⟩ = some (.slice U4 v4 z4) := (blk_cell hb (i * 5 + 4)).trans (hds 4 (by omega))
              have HBG := Aside0.mk (And.intro hb hsz)
              clear hb hsz hds hq hr4' hN
              go_wp2_with fail
              clear y0 y1 y2 y3 y4
              refine (IH.out _ wr HSD.out (by have := HPX.out.ty.size; have := HHP.out; have := blk_lt HPX.out.bp; omega)).mono ?_
              rintro e_ w5 ⟨rfl, ht5⟩
              have HPX5 := Aside0.mk (HPX.out.go HHP.out ht5)
              obtain ⟨cur5, hb5, hty5⟩ := ht5.in_ g 26 cur hl hh HBG.out.1
              have hsz5 : i * 5 + 4 < cur5.size := by rw [hty5.size]; exact HBG.out.2
              obtain ⟨⟨r0, o0, q0⟩, ⟨r1, o1, q1⟩, ⟨r2, o2, q2⟩, ⟨r3, o3, q3⟩, ⟨r4, o4, q4⟩⟩ := zfacts hb5 hsz5 (.int .i64 (-1)) (.bool false) (.slice none 0 0) (.slice none 0 0) (.slice none 0 0)
              have HS : Aside0 (PX lo hi w (zworld w5 g i) p _) := ⟨HPX5.out.go HHP.out (Ty.zero hb5 hl hh hsz5)⟩
              clear ht5 hb5 hty5 hsz5 x0 x1 x2 x3 x4
              obtain ⟨x0, x1, x2, x3, x4⟩ := cells5 HPX5.out.bp
              go_wp2_with fail
              exact ⟨⟨i + 1, by go_num, by omega, HS⟩, by simp [intOf]; omega⟩
            · have hlt' : ¬ (i : Int) < (n4 : Int) := by omega
              go_wp2_with fail
              exact bodyPost_end (v := .tuple #[]) (by simp [results, Tryd.results21, go_sem]) rfl ⟨rfl, HPX.out.ty⟩
theorem spoilt_any (lo hi : Nat) : ∀ N, SPC lo hi N := by
  intro N
  induction N with
  | zero => intro cs w h; exact h.elim
  | succ N ih => exact spoilt_step lo hi N ih
end Go.Proofs.YtfnofjcdaghniaaDoor.Tree
