/- tree.At, walked. Own work; printed by gen_at.py. -/
import Derived.Test.YtfnofjcdaghniaaDoorKnJ
import Derived.Test.YtfnofjcdaghniaaDoorMt16
import Derived.Test.YtfnofjcdaghniaaDoorMt12
import Derived.Test.YtfnofjcdaghniaaDoorRfQ
import Derived.BigQuiet
namespace Go.Proofs.YtfnofjcdaghniaaDoor.Tree
set_option linter.unusedVariables false
set_option linter.unusedSimpArgs false
open Go.RowKit Go.Proofs.YtfnofjcdaghniaaDoor.PL Go.Proofs.YtfnofjcdaghniaaDoor.Mt Go.Proofs.YtfnofjcdaghniaaDoorW.PrintWords Go.Proofs.YtfnofjcdaghniaaDoorW.PrintLast Go.Proofs.YtfnofjcdaghniaaDoorW.PrintMore
/-- At behind the names, as a plain function -/
def atS : List ByteArray → S26 → S26 × Int
  | [], t => (t, 0)
  | n :: l, t => if hasS t.f3 n = true then atS l (t.f4.getD (posS t.f3 n) dir0) else (z0, 7)
noncomputable def AtS (N : Nat) (t : S26) (p : ByteArray) : S26 × Int :=
  if (chk N t 1 0).1 ≠ 0 then (z0, (chk N t 1 0).1) else if (partsS p).all isE = false then (z0, 9) else atS (partsS p) t
/-- two boxes -/
structure AW (w wr : World) (a c : Nat) (oa oc : Array Value) : Prop where
  ba : wr.heap[a]? = some (.cells oa 26 (0, 0))
  bc : wr.heap[c]? = some (.cells oc 26 (0, 0))
  ne : a ≠ c
  lo : w.heap.size ≤ a ∧ w.heap.size ≤ c
  bel : Below w.heap.size w wr
theorem AW.step {w wr w2 : World} {a c : Nat} {oa oc : Array Value} (h : AW w wr a c oa oc) (hb : Below wr.heap.size wr w2) : AW w w2 a c oa oc :=
  ⟨(hb.block _ (blk_lt h.ba)).trans h.ba, (hb.block _ (blk_lt h.bc)).trans h.bc, h.ne, h.lo, below_then h.bel h.bel.size hb⟩
theorem AW.setc {w wr : World} {a c : Nat} {oa : Array Value} {a0 b0 c0 d0 e0 : Value} (h : AW w wr a c oa #[a0, b0, c0, d0, e0]) (x0 x1 x2 x3 x4 : Value) :
    AW w (((((wr.setCell ⟨c, 0, none⟩ x0).setCell ⟨c, 1, none⟩ x1).setCell ⟨c, 2, none⟩ x2).setCell ⟨c, 3, none⟩ x3).setCell ⟨c, 4, none⟩ x4) a c oa #[x0, x1, x2, x3, x4] :=
  ⟨(box_far h.ne _ _ _ _ _).trans h.ba, box_same h.bc _ _ _ _ _, h.ne, h.lo, box_below h.bel h.lo.2 _ _ _ _ _⟩
theorem AW.seta {w wr : World} {a c : Nat} {oc : Array Value} {a0 b0 c0 d0 e0 : Value} (h : AW w wr a c #[a0, b0, c0, d0, e0] oc) (x0 x1 x2 x3 x4 : Value) :
    AW w (((((wr.setCell ⟨a, 0, none⟩ x0).setCell ⟨a, 1, none⟩ x1).setCell ⟨a, 2, none⟩ x2).setCell ⟨a, 3, none⟩ x3).setCell ⟨a, 4, none⟩ x4) a c #[x0, x1, x2, x3, x4] oc :=
  ⟨box_same h.ba _ _ _ _ _, (box_far h.ne.symm _ _ _ _ _).trans h.bc, h.ne, h.lo, box_below h.bel h.lo.1 _ _ _ _ _⟩
theorem AW.enter (w : World) (t : S26) (A2 : Option Addr) (c2 : Nat) (A3 : Option Addr) (c3 : Nat) (A4 : Option Addr) (c4 : Nat) :
    AW w ((w.alloc (bx t A2 c2 A3 c3 A4 c4)).alloc (.cells #[.int .i64 0, .bool false, .slice none 0 0, .slice none 0 0, .slice none 0 0] 26)) w.heap.size (w.heap.size + 1) #[.int .i64 t.f0, .bool t.f1, .slice A2 t.f2.length c2, .slice A3 t.f3.length c3, .slice A4 t.f4.length c4] #[.int .i64 0, .bool false, .slice none 0 0, .slice none 0 0, .slice none 0 0] := by
  obtain ⟨w1, hw1⟩ : ∃ q, w.alloc (bx t A2 c2 A3 c3 A4 c4) = q := ⟨_, rfl⟩
  have h1 : Below w.heap.size w w1 := hw1 ▸ below_alloc (Below.refl _ w) _
  have z1 : w1.heap.size = w.heap.size + 1 := by rw [← hw1]; simp
  have k1 : w1.heap[w.heap.size]? = some (bx t A2 c2 A3 c3 A4 c4) := hw1 ▸ heap_alloc_new w _
  have k2 := heap_alloc_new w1 (.cells #[.int .i64 0, .bool false, .slice none 0 0, .slice none 0 0, .slice none 0 0] 26)
  rw [z1] at k2
  rw [hw1]
  exact ⟨blk_alloc k1 _, k2, by omega, by omega, below_alloc h1 _⟩
theorem OktS {N : Nat} {t : S26} (h : Okt N t) : Srt t.f3 ∧ t.f3.length ≤ 1000000 := by
  cases N with
  | zero => exact h.elim
  | succ N => exact ⟨h.2.1, by have := h.2.2.1; omega⟩
theorem OktL {N : Nat} {t : S26} (h : Okt N t) : t.f3.length = t.f4.length := by
  cases N with
  | zero => exact h.elim
  | succ N => exact h.1
theorem Okt_mono : ∀ {N M : Nat} {t : S26}, Okt N t → N ≤ M → Okt M t := by
  intro N
  induction N with
  | zero => intro M t h; exact h.elim
  | succ N ih =>
    intro M t h hm
    cases M with
    | zero => omega
    | succ M => exact ⟨h.1, h.2.1, h.2.2.1, fun a ha => ih (h.2.2.2 a ha) (by omega)⟩
theorem Okt_kid {N : Nat} {t u : S26} (h : Okt N t) (hu : u ∈ t.f4) : Okt N u := by
  cases N with
  | zero => exact h.elim
  | succ N => exact Okt_mono (h.2.2.2 u hu) (by omega)
theorem GT_kid {N : Nat} {t u : S26} (h : GT N t) (hu : u ∈ t.f4) : GT N u := by
  cases N with
  | zero => exact h.elim
  | succ N => exact GT_mono (h.2.2.2.2.2 u hu) (by omega)
theorem C_set {w : World} {A : Option Addr} {l : List ByteArray} {p : Addr} {u : Value} (v : Value) (h : Kd.string.C w A l.length l) (hp : w.cell? p = some u) (hu : ∀ s, u ≠ .string s) : Kd.string.C (w.setCell p v) A l.length l := by
  obtain ⟨h1, h2, h3⟩ := h
  refine ⟨h1, h2, fun h0 => ?_⟩
  obtain ⟨ad, e, hc⟩ := h3 h0
  refine ⟨ad, e, fun j q hq => ?_⟩
  obtain ⟨c, g1, g2, g3⟩ := hc j q hq
  refine ⟨c, g1, g2, fun i x hx => ?_⟩
  have g4 := g3 i x hx
  rw [World.cell?_setCell_other _ _ _ _ (fun e => ?_)]
  · exact g4
  · rw [← e, hp] at g4
    have hcq : c = [.string q] := g2
    rw [hcq] at hx
    cases i with
    | zero => simp at hx; subst hx; exact hu q (Option.some.inj g4)
    | succ i => simp at hx
theorem CS_box {w : World} {A : Option Addr} {l : List ByteArray} {a : Nat} {k : Int} {b : Bool} {P2 : Option Addr} {n2 d2 : Nat} {P3 : Option Addr} {n3 d3 : Nat} {P4 : Option Addr} {n4 d4 : Nat} (h : Kd.string.C w A l.length l)
    (ha : w.heap[a]? = some (.cells #[.int .i64 k, .bool b, .slice P2 n2 d2, .slice P3 n3 d3, .slice P4 n4 d4] 26 (0, 0))) (v0 v1 v2 v3 v4 : Value) :
    Kd.string.C (((((w.setCell ⟨a, 0, none⟩ v0).setCell ⟨a, 1, none⟩ v1).setCell ⟨a, 2, none⟩ v2).setCell ⟨a, 3, none⟩ v3).setCell ⟨a, 4, none⟩ v4) A l.length l := by
  have b1 := blk_set ha 0 v0
  have b2 := blk_set b1 1 v1
  have b3 := blk_set b2 2 v2
  have b4 := blk_set b3 3 v3
  have s1 := C_set v0 h ((blk_cell ha 0).trans rfl) (fun s => by simp)
  have s2 := C_set v1 s1 ((blk_cell b1 1).trans rfl) (fun s => by simp)
  have s3 := C_set v2 s2 ((blk_cell b2 2).trans rfl) (fun s => by simp)
  have s4 := C_set v3 s3 ((blk_cell b3 3).trans rfl) (fun s => by simp)
  exact C_set v4 s4 ((blk_cell b4 4).trans rfl) (fun s => by simp)
set_option maxRecDepth 20000 in
set_option maxHeartbeats 8000000 in
theorem At_any (N : Nat) (t : S26) (A2 : Option Addr) (c2 : Nat) (A3 : Option Addr) (c3 : Nat) (A4 : Option Addr) (c4 : Nat) (place : ByteArray) (w : World)
    (ht : TR w t A2 c2 A3 c3 A4 c4) (hGt : GT N t) (hg : G0 w) (hp : place.size ≤ 999999) :
    Calls Tryd.prog 19 #[TV t A2 c2 A3 c3 A4 c4, .string place] w (PutQ w (AtS N t place)) := by
  have HT := Aside0.mk (And.intro ht (And.intro hg (show place.size ≤ 1000000 by omega)))
  have HG := Aside0.mk hGt
  clear ht hGt hg hp
  have HW := Aside0.mk (AW.enter w t A2 c2 A3 c3 A4 c4)
  go_enter Tryd.func19, Tryd.ntmps19
  go_upto_region 1 with fail
  generalize ((w.alloc (bx t A2 c2 A3 c3 A4 c4)).alloc (.cells #[.int .i64 0, .bool false, .slice none 0 0, .slice none 0 0, .slice none 0 0] 26)) = w3 at *
  obtain ⟨a, ha⟩ : ∃ q, w.heap.size = q := ⟨_, rfl⟩
  rw [ha] at HW ⊢
  clear ha
  obtain ⟨c, hc⟩ : ∃ q, a + 1 = q := ⟨_, rfl⟩
  rw [hc] at HW ⊢
  clear hc
  obtain ⟨x0, x1, x2, x3, x4⟩ := cells5 HW.out.ba
  go_wp2_with fail
  clear x0 x1 x2 x3 x4
  refine (Check_any N t A2 c2 A3 c3 A4 c4 w3 (HT.out.1.below HW.out.bel) HG.out).mono ?_
  rintro e w4 ⟨rfl, hb⟩
  have HW := Aside0.mk (HW.out.step hb)
  clear hb
  obtain ⟨k1, hk1⟩ : ∃ q, (chk N t 1 0).1 = q := ⟨_, rfl⟩
  rw [hk1]
  have HK1 := Aside0.mk hk1
  clear hk1
  by_cases hz : k1 = 0
  rotate_left
  · skip
    have hkb : (k1 != 0) = true := by simpa using hz
    have HP := Aside0.mk (show AtS N t place = (z0, k1) from by unfold AtS; rw [HK1.out, if_pos hz])
    obtain ⟨b0, b1, b2, b3, b4⟩ := cells5 HW.out.bc
    have f0 := blk_frozen HW.out.bc 0
    have f1 := blk_frozen HW.out.bc 1
    have f2 := blk_frozen HW.out.bc 2
    have f3 := blk_frozen HW.out.bc 3
    have f4 := blk_frozen HW.out.bc 4
    have HF := Aside0.mk (HW.out.setc (.int .i64 0) (.bool false) (.slice none 0 0) (.slice none 0 0) (.slice none 0 0))
    clear hz
    go_wp2_with fail
    refine bodyPost_ret (results_c1 rfl _ _ c 26 _ (0, 0) _ rfl HF.out.bc Tryd.underlying26 rfl (by kernel_rfl)) rfl ?_
    exact PutQ.zero HP.out HF.out.bel
  subst hz
  go_wp2_with fail
  refine (parts_any place w4 (HT.out.2.1.below HW.out.bel) HT.out.2.2).mono ?_
  rintro e w6 ⟨LA, lc, rfl, hlc, hC, hb⟩
  have HW := Aside0.mk (HW.out.step hb)
  clear hb
  obtain ⟨l, hl⟩ : ∃ q, partsS place = q := ⟨_, rfl⟩
  obtain ⟨ok, hok⟩ : ∃ q, l.all isE = q := ⟨_, rfl⟩
  have hll : l.length ≤ 1000001 := by rw [← hl]; exact partsS_len place HT.out.2.2
  rw [hl] at hlc hC ⊢
  rw [hok]
  have HL := Aside0.mk (And.intro hl hok)
  have HC := Aside0.mk (And.intro hC hlc)
  clear hl hok hC hlc
  cases ok with
  | false =>
    have HP := Aside0.mk (show AtS N t place = (z0, 9) from by unfold AtS; rw [HK1.out, if_neg (by simp), HL.out.1, if_pos HL.out.2])
    obtain ⟨b0, b1, b2, b3, b4⟩ := cells5 HW.out.bc
    have f0 := blk_frozen HW.out.bc 0
    have f1 := blk_frozen HW.out.bc 1
    have f2 := blk_frozen HW.out.bc 2
    have f3 := blk_frozen HW.out.bc 3
    have f4 := blk_frozen HW.out.bc 4
    have HF := Aside0.mk (HW.out.setc (.int .i64 0) (.bool false) (.slice none 0 0) (.slice none 0 0) (.slice none 0 0))
    go_wp2_with fail
    refine bodyPost_ret (results_c1 rfl _ _ c 26 _ (0, 0) _ rfl HF.out.bc Tryd.underlying26 rfl (by kernel_rfl)) rfl ?_
    exact PutQ.zero HP.out HF.out.bel
  | true =>
    have HAT : Aside0 (AtS N t place = atS l t) := ⟨by unfold AtS; rw [HK1.out, if_neg (by simp), HL.out.1, if_neg (by rw [HL.out.2]; simp)]⟩
    have HO : Aside0 (Okt N t) := ⟨chk_okt N t 1 0 HG.out (by omega) HK1.out⟩
    go_wp2_with fail
    go_loopw [29] (fun v wr => ∃ (k : Nat) (u : S26) (B2 : Option Addr) (d2 : Nat) (B3 : Option Addr) (d3 : Nat) (B4 : Option Addr) (d4 : Nat), v = .int .i64 (k : Int) ∧ k ≤ l.length ∧ Aside0 (atS l t = atS (l.drop k) u) ∧ Aside0 (TR w u B2 d2 B3 d3 B4 d4) ∧ Aside0 (GT N u) ∧ Aside0 (Okt N u) ∧ Aside0 (Below w6.heap.size w6 wr ∨ True) ∧ Aside0 (Kd.string.C wr LA l.length l) ∧ Aside0 (AW w wr a c #[.int .i64 u.f0, .bool u.f1, .slice B2 u.f2.length d2, .slice B3 u.f3.length d3, .slice B4 u.f4.length d4] #[.int .i64 0, .bool false, .slice none 0 0, .slice none 0 0, .slice none 0 0])) (fun v _ => l.length - (intOf v).toNat)
    case atStart => exact ⟨0, t, A2, c2, A3, c3, A4, c4, rfl, Nat.zero_le _, ⟨rfl⟩, ⟨HT.out.1⟩, HG, HO, ⟨.inr trivial⟩, ⟨HC.out.1⟩, HW⟩
    case round =>
      clear HW HO
      obtain ⟨k, u, B2, d2, B3, d3, B4, d4, rfl, hk, HE, HTU, HGU, HOU, -, HCL, HW⟩ := hrel
      by_cases hlt : k < l.length
      · skip
        obtain ⟨ad, hA, hcn⟩ := Kd.at_string HCL.out (k : Int) (by omega) (by omega)
        obtain ⟨nm, hnm⟩ : ∃ x, rdOf ByteArray.empty l (k : Int) = x := ⟨_, rfl⟩
        have hne : l[k] = nm := by rw [← hnm, rdB hlt]
        rw [hnm, Int.toNat_natCast] at hcn
        subst hA
        have HE2 : Aside0 (atS l t = atS (nm :: l.drop (k + 1)) u) := ⟨by rw [HE.out, List.drop_eq_getElem_cons hlt, hne]⟩
        clear hne hnm HE
        obtain ⟨x0, x1, x2, x3, x4⟩ := cells5 HW.out.ba
        go_wp2_with fail
        clear hcn x0 x1 x2 x3 x4
        refine (bs_any B3 d3 wr (OktS HOU.out).1 (OktS HOU.out).2 (Kd.C_below HTU.out.2.2.2.1 HW.out.bel) HTU.out.2.2.1).mono ?_
        rintro e w7 ⟨rfl, hd⟩
        obtain ⟨dn, rfl⟩ := hd
        have hdr := pw_below_drewN (Below.refl wr.heap.size wr) dn
        have HW := Aside0.mk (HW.out.step hdr)
        have HCL := Aside0.mk (Kd.C_below HCL.out hdr)
        clear hdr
        generalize wr.drewN dn = w8 at *
        obtain ⟨i, hi⟩ : ∃ q, posS u.f3 nm = q := ⟨_, rfl⟩
        obtain ⟨h, hh⟩ : ∃ q, hasS u.f3 nm = q := ⟨_, rfl⟩
        rw [hi, hh]
        have HI := Aside0.mk (And.intro hi hh)
        clear hi hh
        cases h with
        | false =>
          have HP := Aside0.mk (show AtS N t place = (z0, 7) from by rw [HAT.out, HE2.out, atS, if_neg (by rw [HI.out.2]; simp)])
          obtain ⟨b0, b1, b2, b3, b4⟩ := cells5 HW.out.bc
          have f0 := blk_frozen HW.out.bc 0
          have f1 := blk_frozen HW.out.bc 1
          have f2 := blk_frozen HW.out.bc 2
          have f3 := blk_frozen HW.out.bc 3
          have f4 := blk_frozen HW.out.bc 4
          have HF := Aside0.mk (HW.out.setc (.int .i64 0) (.bool false) (.slice none 0 0) (.slice none 0 0) (.slice none 0 0))
          go_wp2_with fail
          refine bodyPost_ret (results_c1 rfl _ _ c 26 _ (0, 0) _ rfl HF.out.bc Tryd.underlying26 rfl (by kernel_rfl)) rfl ?_
          exact PutQ.zero HP.out HF.out.bel
        | true =>
          have hil : i < u.f4.length := by
            have h1 := HI.out.1
            have h2 := HI.out.2
            have h3 := OktL HOU.out
            unfold hasS at h2
            rw [h1] at h2
            have := (List.getElem?_eq_some_iff.1 (of_decide_eq_true h2)).1
            omega
          obtain ⟨ad4, C2, q2, C3, q3, C4, q4, hA4, e0, e1, e2_, e3_, e4_, r1, r2, r3, r4, r5, r6⟩ := at_T26 HTU.out.2.2.2.2.2 (i : Int) (by omega) (by omega)
          obtain ⟨v, hv⟩ : ∃ x, rd_T26 u.f4 (i : Int) = x := ⟨_, rfl⟩
          have hve : u.f4[i] = v := by rw [← hv, rdT hil]
          rw [hv] at e0 e1 e2_ e3_ e4_ r1 r2 r3 r4 r5 r6
          rw [Int.toNat_natCast] at e0 e1 e2_ e3_ e4_
          have HTV : Aside0 (TR w v C2 q2 C3 q3 C4 q4) := ⟨⟨r1, r2, r3, r4, r5, r6⟩⟩
          have HV : Aside0 (u.f4.getD i dir0 = v) := ⟨by rw [List.getD_eq_getElem?_getD, List.getElem?_eq_getElem hil]; exact hve⟩
          have hvm : v ∈ u.f4 := hve ▸ List.getElem_mem hil
          have HGV : Aside0 (GT N v) := ⟨GT_kid HGU.out hvm⟩
          have HOV : Aside0 (Okt N v) := ⟨Okt_kid HOU.out hvm⟩
          have HE3 : Aside0 (atS l t = atS (l.drop (k + 1)) v) := ⟨by rw [HE2.out, atS, if_pos HI.out.2, HI.out.1, HV.out]⟩
          subst hA4
          have g0 := pw_cell_below HW.out.bel e0
          have g1 := pw_cell_below HW.out.bel e1
          have g2 := pw_cell_below HW.out.bel e2_
          have g3 := pw_cell_below HW.out.bel e3_
          have g4 := pw_cell_below HW.out.bel e4_
          clear hv hve hvm e0 e1 e2_ e3_ e4_ r1 r2 r3 r4 r5 r6 HE2
          obtain ⟨x0, x1, x2, x3, x4⟩ := cells5 HW.out.ba
          have f0 := blk_frozen HW.out.ba 0
          have f1 := blk_frozen HW.out.ba 1
          have f2 := blk_frozen HW.out.ba 2
          have f3 := blk_frozen HW.out.ba 3
          have f4 := blk_frozen HW.out.ba 4
          have hil4 : (i : Int) < (u.f4.length : Int) := by omega
          have HCN := Aside0.mk (CS_box HCL.out HW.out.ba (.int .i64 v.f0) (.bool v.f1) (.slice C2 v.f2.length q2) (.slice C3 v.f3.length q3) (.slice C4 v.f4.length q4))
          have HWN := Aside0.mk (HW.out.seta (.int .i64 v.f0) (.bool v.f1) (.slice C2 v.f2.length q2) (.slice C3 v.f3.length q3) (.slice C4 v.f4.length q4))
          go_wp2_with fail
          exact ⟨⟨k + 1, v, C2, q2, C3, q3, C4, q4, by go_num, by omega, HE3, HTV, HGV, HOV, ⟨.inr trivial⟩, HCN, HWN⟩, by simp [intOf]; omega⟩
      · skip
        have hkk : k = l.length := by omega
        have HE4 : Aside0 (AtS N t place = (u, 0)) := ⟨by rw [HAT.out, HE.out, hkk, List.drop_length, atS]⟩
        clear hkk HE
        obtain ⟨x0, x1, x2, x3, x4⟩ := cells5 HW.out.ba
        go_wp2_with fail
        clear x0 x1 x2 x3 x4
        refine (own_any N u B2 d2 B3 d3 B4 d4 wr (HTU.out.below HW.out.bel) HGU.out).mono ?_
        rintro e w10 ⟨J2, j2, J3, j3, J4, j4, rfl, ho, htr, hb⟩
        simp only [TV]
        have HCB : Aside0 (c < wr.heap.size) := ⟨blk_lt HW.out.bc⟩
        have HW := Aside0.mk (HW.out.step hb)
        have HOT := Aside0.mk ho
        clear hb ho htr
        obtain ⟨b0, b1, b2, b3, b4⟩ := cells5 HW.out.bc
        have f0 := blk_frozen HW.out.bc 0
        have f1 := blk_frozen HW.out.bc 1
        have f2 := blk_frozen HW.out.bc 2
        have f3 := blk_frozen HW.out.bc 3
        have f4 := blk_frozen HW.out.bc 4
        have HF := Aside0.mk (HW.out.setc (.int .i64 u.f0) (.bool u.f1) (.slice J2 u.f2.length j2) (.slice J3 u.f3.length j3) (.slice J4 u.f4.length j4))
        go_wp2_with fail
        refine bodyPost_ret (results_c1 rfl _ _ c 26 _ (0, 0) _ rfl HF.out.bc Tryd.underlying26 rfl (by kernel_rfl)) rfl ?_
        exact PutQ.of HE4.out (HOT.out.setb HCB.out _ _ _ _ _) (by have := HW.out.lo.2; have := HCB.out; omega) HF.out.bel
end Go.Proofs.YtfnofjcdaghniaaDoor.Tree
/- two trees in a row, two boxes. Own work. -/
namespace Go.Proofs.YtfnofjcdaghniaaDoor.Tree
set_option linter.unusedVariables false
set_option linter.unusedSimpArgs false
open Go.RowKit Go.Proofs.YtfnofjcdaghniaaDoor.PL Go.Proofs.YtfnofjcdaghniaaDoor.Mt Go.Proofs.YtfnofjcdaghniaaDoorW.PrintWords Go.Proofs.YtfnofjcdaghniaaDoorW.PrintLast Go.Proofs.YtfnofjcdaghniaaDoorW.PrintMore
theorem two_C {w : World} {g : Nat} {t u : S26} {A2 : Option Addr} {c2 : Nat} {A3 : Option Addr} {c3 : Nat} {A4 : Option Addr} {c4 : Nat} {B2 : Option Addr} {d2 : Nat} {B3 : Option Addr} {d3 : Nat} {B4 : Option Addr} {d4 : Nat}
    (hb : w.heap[g]? = some (.cells (cs5 t A2 c2 A3 c3 A4 c4 ++ cs5 u B2 d2 B3 d3 B4 d4).toArray 26 (0, 0))) (h : TR w t A2 c2 A3 c3 A4 c4) (h2 : TR w u B2 d2 B3 d3 B4 d4) : k26.C w (some ⟨g, 0, none⟩) 2 [t, u] := by
  have add : ∀ k : Nat, (⟨g, 0, none⟩ : Addr).add k = ⟨g, k, none⟩ := fun k => by
    cases k with
    | zero => rfl
    | succ k => simp [Addr.add]
  refine ⟨rfl, by decide, fun _ => ⟨_, rfl, fun j p hp => ?_⟩⟩
  match j, hp with
  | 0, hp =>
    simp only [List.getElem?_cons_zero, Option.some.injEq] at hp
    subst hp
    refine ⟨cs5 t A2 c2 A3 c3 A4 c4, rfl, h.K, fun i v hi => ?_⟩
    have hi5 : i < 5 := (List.getElem?_eq_some_iff.1 hi).1
    show w.cell? ((⟨g, 0, none⟩ : Addr).add (0 * 5 + i)) = some v
    rw [add, blk_cell hb, List.getElem?_toArray, List.getElem?_append_left (by show _ < 5; omega), show 0 * 5 + i = i by omega]
    exact hi
  | 1, hp =>
    simp only [List.getElem?_cons_succ, List.getElem?_cons_zero, Option.some.injEq] at hp
    subst hp
    refine ⟨cs5 u B2 d2 B3 d3 B4 d4, rfl, h2.K, fun i v hi => ?_⟩
    show w.cell? ((⟨g, 0, none⟩ : Addr).add (1 * 5 + i)) = some v
    rw [add, blk_cell hb, List.getElem?_toArray, List.getElem?_append_right (by show 5 ≤ _; omega), show 1 * 5 + i - (cs5 t A2 c2 A3 c3 A4 c4).length = i from by show 1 * 5 + i - 5 = i; omega]
    exact hi
  | (j + 2), hp => simp at hp
theorem AW.enter2 (w : World) (t u : S26) (A2 : Option Addr) (c2 : Nat) (A3 : Option Addr) (c3 : Nat) (A4 : Option Addr) (c4 : Nat) (B2 : Option Addr) (d2 : Nat) (B3 : Option Addr) (d3 : Nat) (B4 : Option Addr) (d4 : Nat) :
    AW w ((w.alloc (bx t A2 c2 A3 c3 A4 c4)).alloc (bx u B2 d2 B3 d3 B4 d4)) w.heap.size (w.heap.size + 1) #[.int .i64 t.f0, .bool t.f1, .slice A2 t.f2.length c2, .slice A3 t.f3.length c3, .slice A4 t.f4.length c4] #[.int .i64 u.f0, .bool u.f1, .slice B2 u.f2.length d2, .slice B3 u.f3.length d3, .slice B4 u.f4.length d4] := by
  obtain ⟨w1, hw1⟩ : ∃ q, w.alloc (bx t A2 c2 A3 c3 A4 c4) = q := ⟨_, rfl⟩
  have h1 : Below w.heap.size w w1 := hw1 ▸ below_alloc (Below.refl _ w) _
  have z1 : w1.heap.size = w.heap.size + 1 := by rw [← hw1]; simp
  have k1 : w1.heap[w.heap.size]? = some (bx t A2 c2 A3 c3 A4 c4) := hw1 ▸ heap_alloc_new w _
  have k2 := heap_alloc_new w1 (bx u B2 d2 B3 d3 B4 d4)
  rw [z1] at k2
  rw [hw1]
  exact ⟨blk_alloc k1 _, k2, by omega, by omega, below_alloc h1 _⟩
end Go.Proofs.YtfnofjcdaghniaaDoor.Tree
/- tree.count, walked. Own work; printed by gen_cn.py. -/
namespace Go.Proofs.YtfnofjcdaghniaaDoor.Tree
set_option linter.unusedVariables false
set_option linter.unusedSimpArgs false
open Go.RowKit Go.Proofs.YtfnofjcdaghniaaDoor.PL Go.Proofs.YtfnofjcdaghniaaDoor.Mt Go.Proofs.YtfnofjcdaghniaaDoorW.PrintWords Go.Proofs.YtfnofjcdaghniaaDoorW.PrintLast Go.Proofs.YtfnofjcdaghniaaDoorW.PrintMore
/-- bytes -/
def cntB : Nat → S26 → Nat
  | 0, _ => 0
  | N + 1, t => (if t.f0 = 1 then t.f2.length else 0) + (t.f4.map (cntB N)).sum
theorem formE_big {t : S26} (h : formE t = 0) (h1 : t.f0 = 1) : t.f2.length ≤ 1048576 := by
  unfold formE at h
  rw [if_pos h1] at h
  split at h
  · cases h
  · split at h
    · cases h
    · omega
theorem cntB_le : ∀ (N d : Nat) (t : S26), CHK N d t → cntB N t ≤ cntN N t * 1048576 := by
  intro N
  induction N with
  | zero => intro d t h; exact h.1.elim
  | succ N ih =>
    intro d t h
    obtain ⟨k1, k2, k3, k4, k5⟩ := h.node
    rw [cntB, cntN]
    have h1 : (if t.f0 = 1 then t.f2.length else 0) ≤ 1048576 := by
      split
      · exact formE_big k1 (by assumption)
      · omega
    have key : ∀ l : List S26, (∀ u ∈ l, CHK N (d + 1) u) → (l.map (cntB N)).sum ≤ (l.map (cntN N)).sum * 1048576 := by
      intro l
      induction l with
      | nil => intro _; simp
      | cons a l ihl =>
        intro hl
        have h2 := ihl (fun u hu => hl u (List.mem_cons_of_mem _ hu))
        have h3 := ih (d + 1) a (hl a (List.mem_cons_self ..))
        simp only [List.map_cons, List.sum_cons]
        omega
    have h4 := key t.f4 k5
    omega
/-- two numbers that are counted up -/
structure C2 (w0 wr : World) (g h : Nat) (n b : Nat) : Prop where
  bg : wr.heap[g]? = some (.cells #[.int .i64 (n : Int)] 3 (0, 0))
  bh : wr.heap[h]? = some (.cells #[.int .i64 (b : Int)] 3 (0, 0))
  ne : g ≠ h
  lo : w0.heap.size ≤ g ∧ w0.heap.size ≤ h
  bel : Below w0.heap.size w0 wr
theorem C2.below {w0 wr w2 : World} {g h n b : Nat} (c : C2 w0 wr g h n b) (hb : Below wr.heap.size wr w2) : C2 w0 w2 g h n b :=
  ⟨(hb.block _ (blk_lt c.bg)).trans c.bg, (hb.block _ (blk_lt c.bh)).trans c.bh, c.ne, c.lo, below_then c.bel c.bel.size hb⟩
theorem C2.setg {w0 wr : World} {g h n b : Nat} (c : C2 w0 wr g h n b) (m : Nat) : C2 w0 (wr.setCell ⟨g, 0, none⟩ (.int .i64 (m : Int))) g h m b :=
  ⟨by simpa using blk_set c.bg 0 (.int .i64 (m : Int)), blk_far c.bh (fun e => c.ne e.symm) _, c.ne, c.lo, below_set c.bel c.lo.1⟩
theorem C2.seth {w0 wr : World} {g h n b : Nat} (c : C2 w0 wr g h n b) (m : Nat) : C2 w0 (wr.setCell ⟨h, 0, none⟩ (.int .i64 (m : Int))) g h n m :=
  ⟨blk_far c.bg c.ne _, by simpa using blk_set c.bh 0 (.int .i64 (m : Int)), c.ne, c.lo, below_set c.bel c.lo.2⟩
theorem keep_seth {w wr : World} {g h : Nat} (k : KeepBut w wr g (some h)) (v : Value) : KeepBut w (wr.setCell ⟨h, 0, none⟩ v) g (some h) := by
  exact ⟨by simpa [World.setCell] using k.1, fun i hi hg hh => (Below.heap_setCell wr ⟨h, 0, none⟩ v i (fun e => hh (by rw [e]))).trans (k.2 i hi hg hh)⟩
set_option maxRecDepth 20000 in
set_option maxHeartbeats 2000000 in
theorem count_leaf (w0 : World) (t : S26) (A2 : Option Addr) (c2 : Nat) (A3 : Option Addr) (c3 : Nat) (A4 : Option Addr) (c4 : Nat) (w : World) (g h n b : Nat) (h1 : t.f0 = 1) (hk : t.f4 = []) (hC : C2 w0 w g h n b) (hn : n < 65536) (hbn : b ≤ n * 1048576) (hl : t.f2.length ≤ 1048576) :
  Calls Tryd.prog 42 #[TV t A2 c2 A3 c3 A4 c4, .pointer (some ⟨g, 0, none⟩), .pointer (some ⟨h, 0, none⟩)] w fun e w' => e = .returned (.tuple #[]) ∧ C2 w0 w' g h (n + 1) (b + t.f2.length) ∧ KeepBut w w' g (some h) := by
  have hb1 := below_alloc (Below.refl w.heap.size w) (.cells #[.int .i64 t.f0, .bool t.f1, .slice A2 t.f2.length c2, .slice A3 t.f3.length c3, .slice A4 t.f4.length c4] 26)
  have HC1 := Aside0.mk (hC.below hb1)
  have HP1 := Aside0.mk (heap_alloc_new w (.cells #[.int .i64 t.f0, .bool t.f1, .slice A2 t.f2.length c2, .slice A3 t.f3.length c3, .slice A4 t.f4.length c4] 26))
  have HK1 : Aside0 (KeepBut w (w.alloc (.cells #[.int .i64 t.f0, .bool t.f1, .slice A2 t.f2.length c2, .slice A3 t.f3.length c3, .slice A4 t.f4.length c4] 26)) g (some h)) := ⟨KeepBut.of_below hb1 g _⟩
  have hpg : w.heap.size ≠ g := by have := blk_lt hC.bg; omega
  have hph : w.heap.size ≠ h := by have := blk_lt hC.bh; omega
  have HK4 : Aside0 (t.f4.length = 0) := ⟨by rw [hk]; rfl⟩
  have hf0 : (t.f0 == 1) = true := by simp [h1]
  have hbb : b ≤ 68719476736 := by omega
  clear hC hb1 h1 hk hbn
  go_enter Tryd.func42, Tryd.ntmps42
  go_upto_region 1 with fail
  generalize (w.alloc (.cells #[.int .i64 t.f0, .bool t.f1, .slice A2 t.f2.length c2, .slice A3 t.f3.length c3, .slice A4 t.f4.length c4] 26)) = wa at *
  obtain ⟨pp, hpp⟩ : ∃ q, w.heap.size = q := ⟨_, rfl⟩
  rw [hpp] at HP1 hpg hph ⊢
  have HPP := Aside0.mk hpp
  clear hpp
  have g0 : wa.cell? ⟨g, 0, none⟩ = some (.int .i64 (n : Int)) := (blk_cell HC1.out.bg 0).trans rfl
  have gf0 : wa.frozen? ⟨g, 0, none⟩ = false := blk_frozen HC1.out.bg 0
  go_upto_region 2 with fail
  obtain ⟨n1, hn1⟩ : ∃ q : Nat, q = n + 1 := ⟨_, rfl⟩
  have hv : ((n : Int) + 1) = (n1 : Int) := by omega
  rw [hv]
  have HN1 := Aside0.mk hn1
  clear hv g0 gf0 hn1
  have HC2 := Aside0.mk (HC1.out.setg n1)
  have HP2 := Aside0.mk (blk_far HP1.out (p := ⟨g, 0, none⟩) hpg (.int .i64 (n1 : Int)))
  have HK2 := Aside0.mk (HK1.out.set_ 0 (.int .i64 (n1 : Int)))
  clear HC1 HP1 HK1
  generalize wa.setCell ⟨g, 0, none⟩ (.int .i64 (n1 : Int)) = w2 at *
  obtain ⟨x0, x1, x2, x3, x4⟩ := cells5 HP2.out
  have g0 : w2.cell? ⟨h, 0, none⟩ = some (.int .i64 (b : Int)) := (blk_cell HC2.out.bh 0).trans rfl
  have gf0 : w2.frozen? ⟨h, 0, none⟩ = false := blk_frozen HC2.out.bh 0
  go_upto_region 3 with fail
  go_still_tail 8, (by kernel_rfl)
  change wpList _ _ _ _ _ w2.drew
  have hdr := below_drew (Below.refl w2.heap.size w2)
  have HC3 := Aside0.mk (HC2.out.below hdr)
  have HP3 := Aside0.mk ((hdr.block _ (blk_lt HP2.out)).trans HP2.out)
  have HK3 := Aside0.mk (HK2.out.trans (KeepBut.of_below hdr g (some h)) (.inl rfl))
  clear HC2 HP2 HK2 g0 gf0 hdr x0 x1 x2 x3 x4
  generalize w2.drew = w3 at *
  have g0 : w3.cell? ⟨h, 0, none⟩ = some (.int .i64 (b : Int)) := (blk_cell HC3.out.bh 0).trans rfl
  have gf0 : w3.frozen? ⟨h, 0, none⟩ = false := blk_frozen HC3.out.bh 0
  go_upto_region 4 with fail
  obtain ⟨b1, hb1⟩ : ∃ q : Nat, q = b + t.f2.length := ⟨_, rfl⟩
  have hv : ((b : Int) + (t.f2.length : Int)) = (b1 : Int) := by omega
  rw [hv]
  have HB1 := Aside0.mk hb1
  clear hv g0 gf0 hb1
  have HC4 := Aside0.mk (HC3.out.seth b1)
  have HP4 := Aside0.mk (blk_far HP3.out (p := ⟨h, 0, none⟩) hph (.int .i64 (b1 : Int)))
  have HK4' := Aside0.mk (keep_seth HK3.out (.int .i64 (b1 : Int)))
  clear HC3 HP3 HK3
  generalize w3.setCell ⟨h, 0, none⟩ (.int .i64 (b1 : Int)) = w4 at *
  obtain ⟨x0, x1, x2, x3, x4⟩ := cells5 HP4.out
  go_wp2_with fail
  go_loopw [27] (fun v wr => v = .int .i64 0 ∧ wr = w4) (fun _ _ => 0)
  case atStart => exact ⟨rfl, rfl⟩
  case round =>
    obtain ⟨rfl, rfl⟩ := hrel
    have hk4 := HK4.out
    go_wp2_with fail
    exact bodyPost_end (v := .tuple #[]) (by simp [results, Tryd.results42, go_sem]) rfl ⟨rfl, by rw [← HN1.out, ← HB1.out]; exact HC4.out, HK4'.out⟩
def CC (w0 : World) (N : Nat) : Prop := ∀ (t : S26) (A2 : Option Addr) (c2 : Nat) (A3 : Option Addr) (c3 : Nat) (A4 : Option Addr) (c4 : Nat) (w : World) (g h n b d : Nat), TR w0 t A2 c2 A3 c3 A4 c4 → CHK N d t → C2 w0 w g h n b → n + cntN N t ≤ 65536 → b ≤ n * 1048576 →
  Calls Tryd.prog 42 #[TV t A2 c2 A3 c3 A4 c4, .pointer (some ⟨g, 0, none⟩), .pointer (some ⟨h, 0, none⟩)] w fun e w' => e = .returned (.tuple #[]) ∧ C2 w0 w' g h (n + cntN N t) (b + cntB N t) ∧ KeepBut w w' g (some h)
set_option maxRecDepth 20000 in
set_option maxHeartbeats 2000000 in
theorem count_dir (w0 : World) (N d : Nat) (ih : CC w0 N) (t : S26) (A2 : Option Addr) (c2 : Nat) (A3 : Option Addr) (c3 : Nat) (A4 : Option Addr) (c4 : Nat) (w : World) (g h n b : Nat) (h1 : t.f0 ≠ 1) (ht : TR w0 t A2 c2 A3 c3 A4 c4) (hch : ∀ u ∈ t.f4, CHK N (d + 1) u) (hC : C2 w0 w g h n b) (hl : n + 1 + (t.f4.map (cntN N)).sum ≤ 65536) (hbn : b ≤ n * 1048576) (hl4 : t.f4.length ≤ 65536) :
  Calls Tryd.prog 42 #[TV t A2 c2 A3 c3 A4 c4, .pointer (some ⟨g, 0, none⟩), .pointer (some ⟨h, 0, none⟩)] w fun e w' => e = .returned (.tuple #[]) ∧ C2 w0 w' g h (n + 1 + (t.f4.map (cntN N)).sum) (b + (t.f4.map (cntB N)).sum) ∧ KeepBut w w' g (some h) := by
  have hb1 := below_alloc (Below.refl w.heap.size w) (.cells #[.int .i64 t.f0, .bool t.f1, .slice A2 t.f2.length c2, .slice A3 t.f3.length c3, .slice A4 t.f4.length c4] 26)
  have HC1 := Aside0.mk (hC.below hb1)
  have HP1 := Aside0.mk (heap_alloc_new w (.cells #[.int .i64 t.f0, .bool t.f1, .slice A2 t.f2.length c2, .slice A3 t.f3.length c3, .slice A4 t.f4.length c4] 26))
  have HK1 : Aside0 (KeepBut w (w.alloc (.cells #[.int .i64 t.f0, .bool t.f1, .slice A2 t.f2.length c2, .slice A3 t.f3.length c3, .slice A4 t.f4.length c4] 26)) g (some h)) := ⟨KeepBut.of_below hb1 g _⟩
  have hpg : w.heap.size ≠ g := by have := blk_lt hC.bg; omega
  have hph : w.heap.size ≠ h := by have := blk_lt hC.bh; omega
  have IH := Aside0.mk ih
  have HT := Aside0.mk ht
  have HCH := Aside0.mk hch
  have hnb : n < 65536 := by omega
  have HL := Aside0.mk hl
  have HBN := Aside0.mk hbn
  have hf0 : (t.f0 == 1) = false := by simp [h1]
  clear hC hb1 h1 ih ht hch hl hbn
  go_enter Tryd.func42, Tryd.ntmps42
  go_upto_region 1 with fail
  generalize (w.alloc (.cells #[.int .i64 t.f0, .bool t.f1, .slice A2 t.f2.length c2, .slice A3 t.f3.length c3, .slice A4 t.f4.length c4] 26)) = wa at *
  obtain ⟨pp, hpp⟩ : ∃ q, w.heap.size = q := ⟨_, rfl⟩
  rw [hpp] at HP1 hpg hph ⊢
  have HPP := Aside0.mk hpp
  clear hpp
  have g0 : wa.cell? ⟨g, 0, none⟩ = some (.int .i64 (n : Int)) := (blk_cell HC1.out.bg 0).trans rfl
  have gf0 : wa.frozen? ⟨g, 0, none⟩ = false := blk_frozen HC1.out.bg 0
  go_upto_region 2 with fail
  obtain ⟨n1, hn1⟩ : ∃ q : Nat, q = n + 1 := ⟨_, rfl⟩
  have hv : ((n : Int) + 1) = (n1 : Int) := by omega
  rw [hv]
  have HN1 := Aside0.mk hn1
  clear hv g0 gf0 hn1
  have HC2 := Aside0.mk (HC1.out.setg n1)
  have HP2 := Aside0.mk (blk_far HP1.out (p := ⟨g, 0, none⟩) hpg (.int .i64 (n1 : Int)))
  have HK2 := Aside0.mk (HK1.out.set_ 0 (.int .i64 (n1 : Int)))
  clear HC1 HP1 HK1
  generalize wa.setCell ⟨g, 0, none⟩ (.int .i64 (n1 : Int)) = w2 at *
  obtain ⟨x0, x1, x2, x3, x4⟩ := cells5 HP2.out
  go_wp2_with fail
  go_loopw [27] (fun v wr => ∃ (k m c : Nat), v = .int .i64 (k : Int) ∧ k ≤ t.f4.length ∧ Aside0 (n + 1 + (t.f4.map (cntN N)).sum = m + ((t.f4.drop k).map (cntN N)).sum) ∧ Aside0 (b + (t.f4.map (cntB N)).sum = c + ((t.f4.drop k).map (cntB N)).sum) ∧ Aside0 (c ≤ m * 1048576) ∧ Aside0 (C2 w0 wr g h m c) ∧ Aside0 (wr.heap[pp]? = some (.cells #[.int .i64 t.f0, .bool t.f1, .slice A2 t.f2.length c2, .slice A3 t.f3.length c3, .slice A4 t.f4.length c4] 26)) ∧ Aside0 (KeepBut w wr g (some h))) (fun v _ => t.f4.length - (intOf v).toNat)
  case atStart => exact ⟨0, n1, b, rfl, Nat.zero_le _, ⟨by rw [HN1.out]; rfl⟩, ⟨rfl⟩, ⟨by rw [HN1.out]; exact Nat.le_trans HBN.out (Nat.mul_le_mul_right _ (Nat.le_succ n))⟩, HC2, HP2, HK2⟩
  case round =>
    clear HC2 HP2 HK2 x0 x1 x2 x3 x4
    obtain ⟨k, m, c, rfl, hk, HE, HEB, HCM, HC, HP, HK⟩ := hrel
    by_cases hlt : k < t.f4.length
    · skip
      obtain ⟨ad, B2, d2, B3, d3, B4, d4, hA, e0, e1, e2, e3, e4, r1, r2, r3, r4, r5, r6⟩ := at_T26 HT.out.2.2.2.2.2 (k : Int) (by omega) (by omega)
      obtain ⟨u, hu⟩ : ∃ x, rd_T26 t.f4 (k : Int) = x := ⟨_, rfl⟩
      have hue : t.f4[k] = u := by rw [← hu, rdT hlt]
      rw [hu] at e0 e1 e2 e3 e4 r1 r2 r3 r4 r5 r6
      rw [Int.toNat_natCast] at e0 e1 e2 e3 e4
      have HCU : Aside0 (CHK N (d + 1) u) := ⟨hue ▸ HCH.out _ (List.getElem_mem hlt)⟩
      have HTR : Aside0 (TR w0 u B2 d2 B3 d3 B4 d4) := ⟨⟨r1, r2, r3, r4, r5, r6⟩⟩
      have HE2 : Aside0 (n + 1 + (t.f4.map (cntN N)).sum = m + cntN N u + ((t.f4.drop (k + 1)).map (cntN N)).sum) := ⟨by rw [HE.out, List.drop_eq_getElem_cons hlt, hue, List.map_cons, List.sum_cons]; omega⟩
      have HEB2 : Aside0 (b + (t.f4.map (cntB N)).sum = c + cntB N u + ((t.f4.drop (k + 1)).map (cntB N)).sum) := ⟨by rw [HEB.out, List.drop_eq_getElem_cons hlt, hue, List.map_cons, List.sum_cons]; omega⟩
      have HCM2 : Aside0 (c + cntB N u ≤ (m + cntN N u) * 1048576) := ⟨by have h1 := HCM.out; have h2 := cntB_le N (d + 1) u HCU.out; omega⟩
      have hal := below_alloc (Below.refl wr.heap.size wr) (.cells #[.int .i64 u.f0, .bool u.f1, .slice B2 u.f2.length d2, .slice B3 u.f3.length d3, .slice B4 u.f4.length d4] 26)
      have f0 := pw_cell_below HC.out.bel e0
      have f1 := pw_cell_below HC.out.bel e1
      have f2 := pw_cell_below HC.out.bel e2
      have f3 := pw_cell_below HC.out.bel e3
      have f4 := pw_cell_below HC.out.bel e4
      subst hA
      clear hue hu e0 e1 e2 e3 e4 r1 r2 r3 r4 r5 r6 HE HEB
      have HCb := Aside0.mk (HC.out.below hal)
      have HPb := Aside0.mk (blk_alloc HP.out (.cells #[.int .i64 u.f0, .bool u.f1, .slice B2 u.f2.length d2, .slice B3 u.f3.length d3, .slice B4 u.f4.length d4] 26))
      have HUb := Aside0.mk (heap_alloc_new wr (.cells #[.int .i64 u.f0, .bool u.f1, .slice B2 u.f2.length d2, .slice B3 u.f3.length d3, .slice B4 u.f4.length d4] 26))
      have HKb : Aside0 (KeepBut w (wr.alloc (.cells #[.int .i64 u.f0, .bool u.f1, .slice B2 u.f2.length d2, .slice B3 u.f3.length d3, .slice B4 u.f4.length d4] 26)) g (some h)) := ⟨HK.out.trans (KeepBut.of_below hal g _) (.inl rfl)⟩
      clear hal HC HP HK
      go_upto_region 7 with fail
      generalize (wr.alloc (.cells #[.int .i64 u.f0, .bool u.f1, .slice B2 u.f2.length d2, .slice B3 u.f3.length d3, .slice B4 u.f4.length d4] 26)) = wb at *
      generalize wr.heap.size = pb at *
      clear f0 f1 f2 f3 f4
      obtain ⟨x0, x1, x2, x3, x4⟩ := cells5 HUb.out
      go_wp2_with fail
      refine (IH.out u B2 d2 B3 d3 B4 d4 wb g h m c (d + 1) HTR.out HCU.out HCb.out (by have := HE2.out; have := HL.out; omega) HCM.out).mono ?_
      rintro e_ w7 ⟨rfl, hc7, hk7⟩
      have HP7 : Aside0 (w7.heap[pp]? = _) := ⟨(hk7.2 _ (blk_lt HPb.out) hpg (fun e => hph (Option.some.inj e))).trans HPb.out⟩
      have HC7 := Aside0.mk hc7
      have HK7 := Aside0.mk (HKb.out.trans hk7 (.inl rfl))
      clear hc7 hk7 HKb HPb HCb HUb x0 x1 x2 x3 x4
      go_wp2_with fail
      trace_state
      exact ⟨⟨k + 1, m + cntN N u, c + cntB N u, by go_num, by omega, HE2, HEB2, HCM2, HC7, HP7, HK7⟩, by simp [intOf]; omega⟩
    · have hkk : k = t.f4.length := by omega
      have h8 := HE.out
      have h9 := HEB.out
      rw [hkk, List.drop_length, List.map_nil, List.sum_nil, Nat.add_zero] at h8 h9
      have H8 := Aside0.mk h8
      have H9 := Aside0.mk h9
      clear h8 h9
      go_wp2_with fail
      exact bodyPost_end (v := .tuple #[]) (by simp [results, Tryd.results42, go_sem]) rfl ⟨rfl, by rw [H8.out, H9.out]; exact HC.out, HK.out⟩
theorem count_any (w0 : World) : ∀ N, CC w0 N := by
  intro N
  induction N with
  | zero =>
    intro t A2 c2 A3 c3 A4 c4 w g h n b d ht hc
    exact hc.1.elim
  | succ N ih =>
    intro t A2 c2 A3 c3 A4 c4 w g h n b d ht hc hC hl hbn
    obtain ⟨k1, k2, k3, k4, k5⟩ := hc.node
    rw [cntN] at hl ⊢
    rw [cntB]
    have hl4 : t.f4.length ≤ 65536 := by have := cnt_len N t.f4 hc.1.2.2.2.2.2; omega
    by_cases h1 : t.f0 = 1
    · have hk := (formE_file k1 h1).2
      rw [if_pos h1, hk]
      exact count_leaf w0 t A2 c2 A3 c3 A4 c4 w g h n b h1 hk hC (by omega) hbn (formE_big k1 h1)
    · rw [if_neg h1, ← Nat.add_assoc, Nat.zero_add]
      exact count_dir w0 N d ih t A2 c2 A3 c3 A4 c4 w g h n b h1 ht k5 hC (by omega) hbn hl4
theorem C2.start (wa : World) : C2 wa ((wa.alloc (.cells #[.int .i64 0] 3)).alloc (.cells #[.int .i64 0] 3)) wa.heap.size (wa.heap.size + 1) 0 0 := by
  obtain ⟨w1, hw1⟩ : ∃ q, wa.alloc (.cells #[.int .i64 0] 3) = q := ⟨_, rfl⟩
  have k1 : w1.heap[wa.heap.size]? = some (.cells #[.int .i64 0] 3 (0, 0)) := hw1 ▸ heap_alloc_new wa _
  have b1 : Below wa.heap.size wa w1 := hw1 ▸ below_alloc (Below.refl _ wa) _
  have z1 : w1.heap.size = wa.heap.size + 1 := by rw [← hw1]; simp
  have k2 := heap_alloc_new w1 (.cells #[.int .i64 0] 3)
  rw [z1] at k2
  rw [hw1]
  exact ⟨blk_alloc k1 _, k2, by omega, by omega, below_alloc b1 _⟩
/-- what Count tells -/
noncomputable def CountS (N : Nat) (t : S26) : Nat × Nat := if (chk N t 1 0).1 ≠ 0 then (0, 0) else (cntN N t, cntB N t)
set_option maxRecDepth 20000 in
set_option maxHeartbeats 2000000 in
theorem Count_any (N : Nat) (t : S26) (A2 : Option Addr) (c2 : Nat) (A3 : Option Addr) (c3 : Nat) (A4 : Option Addr) (c4 : Nat) (w : World) (ht : TR w t A2 c2 A3 c3 A4 c4) (hG : GT N t) :
    Calls Tryd.prog 25 #[TV t A2 c2 A3 c3 A4 c4] w fun e w' => e = .returned (.tuple #[.int .i64 ((CountS N t).1 : Int), .int .i64 ((CountS N t).2 : Int)]) ∧ Below w.heap.size w w' := by
  have HT := Aside0.mk ht
  have HG := Aside0.mk hG
  clear ht hG
  have HP := Aside0.mk (heap_alloc_new w (.cells #[.int .i64 t.f0, .bool t.f1, .slice A2 t.f2.length c2, .slice A3 t.f3.length c3, .slice A4 t.f4.length c4] 26))
  have hb1 := below_alloc (Below.refl w.heap.size w) (.cells #[.int .i64 t.f0, .bool t.f1, .slice A2 t.f2.length c2, .slice A3 t.f3.length c3, .slice A4 t.f4.length c4] 26)
  obtain ⟨wa, hwa⟩ : ∃ q, w.alloc (.cells #[.int .i64 t.f0, .bool t.f1, .slice A2 t.f2.length c2, .slice A3 t.f3.length c3, .slice A4 t.f4.length c4] 26) = q := ⟨_, rfl⟩
  rw [hwa] at HP hb1
  have hz1 : wa.heap.size = w.heap.size + 1 := by rw [← hwa]; simp
  have HC := Aside0.mk (C2.start wa)
  have HP := Aside0.mk (blk_alloc (blk_alloc HP.out (.cells #[.int .i64 0] 3)) (.cells #[.int .i64 0] 3))
  have HB := Aside0.mk (below_then hb1 hb1.size HC.out.bel)
  have HBA := Aside0.mk hb1
  clear hb1
  go_enter Tryd.func25, Tryd.ntmps25
  go_upto_region 1 with fail
  rw [hz1] at HC
  clear hwa hz1
  obtain ⟨pp, hpp⟩ : ∃ q, w.heap.size = q := ⟨_, rfl⟩
  rw [hpp] at HC HP ⊢
  have HPP := Aside0.mk hpp
  clear hpp
  obtain ⟨g1, hg1⟩ : ∃ q, pp + 1 = q := ⟨_, rfl⟩
  rw [hg1] at HC ⊢
  have HG1 := Aside0.mk hg1
  clear hg1
  obtain ⟨h1, hh1⟩ : ∃ q, g1 + 1 = q := ⟨_, rfl⟩
  rw [hh1] at HC ⊢
  clear hh1
  generalize (wa.alloc (.cells #[.int .i64 0] 3)).alloc (.cells #[.int .i64 0] 3) = w2 at *
  obtain ⟨x0, x1, x2, x3, x4⟩ := cells5 HP.out
  go_wp2_with fail
  clear x0 x1 x2 x3 x4
  refine (Check_any N t A2 c2 A3 c3 A4 c4 w2 (HT.out.below HB.out) HG.out).mono ?_
  rintro e w3 ⟨rfl, hb⟩
  have HC3 := Aside0.mk (HC.out.below hb)
  have HP3 := Aside0.mk ((hb.block _ (blk_lt HP.out)).trans HP.out)
  have HB3 := Aside0.mk (below_then HB.out HB.out.size hb)
  clear hb HC HP HB
  obtain ⟨k, hk⟩ : ∃ q, (chk N t 1 0).1 = q := ⟨_, rfl⟩
  rw [hk]
  have HK := Aside0.mk hk
  clear hk
  by_cases hz : k = 0
  rotate_left
  · skip
    have HE : Aside0 (CountS N t = (0, 0)) := ⟨by unfold CountS; rw [HK.out, if_pos hz]⟩
    have hkb : (k != 0) = true := by simpa using hz
    clear hz
    have r1 : w3.cell? ⟨g1, 0, none⟩ = some (.int .i64 0) := (blk_cell HC3.out.bg 0).trans rfl
    have r2 : w3.cell? ⟨h1, 0, none⟩ = some (.int .i64 0) := (blk_cell HC3.out.bh 0).trans rfl
    have r3 := blk_frozen HC3.out.bg 0
    have r4 := blk_frozen HC3.out.bh 0
    have hm : C2 wa (w3.setCell ⟨g1, 0, none⟩ (.int .i64 0)) g1 h1 0 0 := HC3.out.setg 0
    have r5 : (w3.setCell ⟨g1, 0, none⟩ (.int .i64 0)).cell? ⟨h1, 0, none⟩ = some (.int .i64 0) := (blk_cell hm.bh 0).trans rfl
    have r6 := blk_frozen hm.bh 0
    have HC4 : Aside0 (C2 wa ((w3.setCell ⟨g1, 0, none⟩ (.int .i64 0)).setCell ⟨h1, 0, none⟩ (.int .i64 0)) g1 h1 0 0) := ⟨hm.seth 0⟩
    clear hm
    go_wp2_with fail
    clear r1 r2 r3 r4 r5 r6
    generalize (w3.setCell ⟨g1, 0, none⟩ (.int .i64 0)).setCell ⟨h1, 0, none⟩ (.int .i64 0) = w9 at *
    have HC9 : Aside0 (C2 wa w9 g1 h1 0 0) := HC4
    have q1 : w9.cell? ⟨g1, 0, none⟩ = some (.int .i64 (0 : Int)) := (blk_cell HC9.out.bg 0).trans rfl
    have q2 : w9.cell? ⟨h1, 0, none⟩ = some (.int .i64 (0 : Int)) := (blk_cell HC9.out.bh 0).trans rfl
    refine bodyPost_ret (v := .tuple #[.int .i64 (0 : Int), .int .i64 (0 : Int)]) (by simp [results, Tryd.results25, go_sem, q1, q2]) rfl ⟨by rw [HE.out]; rfl, below_thenM HBA.out HBA.out.size HC9.out.bel⟩
  subst hz
  obtain ⟨x0, x1, x2, x3, x4⟩ := cells5 HP3.out
  go_wp2_with fail
  clear x0 x1 x2 x3 x4
  refine (count_any wa N t A2 c2 A3 c3 A4 c4 w3 g1 h1 0 0 1 (HT.out.below HBA.out) ⟨HG.out, 0, by omega, HK.out⟩ HC3.out (by have := (filesS_le HG.out HK.out).1; omega) (by omega)).mono ?_
  have HE : Aside0 (CountS N t = (cntN N t, cntB N t)) := ⟨by unfold CountS; rw [HK.out, if_neg (by simp)]⟩
  obtain ⟨nn, hnn⟩ : ∃ q, cntN N t = q := ⟨_, rfl⟩
  obtain ⟨bb, hbb⟩ : ∃ q, cntB N t = q := ⟨_, rfl⟩
  rw [hnn, hbb] at HE
  rw [hnn, hbb, Nat.zero_add, Nat.zero_add]
  rintro e_ w4 ⟨rfl, hc4, -⟩
  have HC4 := Aside0.mk hc4
  have r1 : w4.cell? ⟨g1, 0, none⟩ = some (.int .i64 (nn : Int)) := (blk_cell hc4.bg 0).trans rfl
  have r2 : w4.cell? ⟨h1, 0, none⟩ = some (.int .i64 (bb : Int)) := (blk_cell hc4.bh 0).trans rfl
  have r3 := blk_frozen hc4.bg 0
  have r4 := blk_frozen hc4.bh 0
  have hm := hc4.setg nn
  have r5 : (w4.setCell ⟨g1, 0, none⟩ (.int .i64 (nn : Int))).cell? ⟨h1, 0, none⟩ = some (.int .i64 (bb : Int)) := (blk_cell hm.bh 0).trans rfl
  have r6 := blk_frozen hm.bh 0
  clear hc4 hnn hbb hm
  have HC9 := Aside0.mk ((HC4.out.setg nn).seth bb)
  go_wp2_with fail
  clear r1 r2 r3 r4 r5 r6
  generalize (w4.setCell ⟨g1, 0, none⟩ (.int .i64 (nn : Int))).setCell ⟨h1, 0, none⟩ (.int .i64 (bb : Int)) = w9 at *
  have q1 : w9.cell? ⟨g1, 0, none⟩ = some (.int .i64 (nn : Int)) := (blk_cell HC9.out.bg 0).trans rfl
  have q2 : w9.cell? ⟨h1, 0, none⟩ = some (.int .i64 (bb : Int)) := (blk_cell HC9.out.bh 0).trans rfl
  refine bodyPost_ret (v := .tuple #[.int .i64 (nn : Int), .int .i64 (bb : Int)]) (by simp [results, Tryd.results25, go_sem, q1, q2]) rfl ⟨by rw [HE.out], below_thenM HBA.out HBA.out.size HC9.out.bel⟩
end Go.Proofs.YtfnofjcdaghniaaDoor.Tree
/- tree.alike, walked. Own work; printed by gen_sa.py. -/
namespace Go.Proofs.YtfnofjcdaghniaaDoor.Tree
set_option linter.unusedVariables false
set_option linter.unusedSimpArgs false
open Go.RowKit Go.Proofs.YtfnofjcdaghniaaDoor.PL Go.Proofs.YtfnofjcdaghniaaDoor.Mt Go.Proofs.YtfnofjcdaghniaaDoorW.PrintWords Go.Proofs.YtfnofjcdaghniaaDoorW.PrintLast Go.Proofs.YtfnofjcdaghniaaDoorW.PrintMore
theorem bEq_any (A0 : Option Addr) (c0 : Nat) (l : List Int) (A1 : Option Addr) (c1 : Nat) (m : List Int) (w : World) (h0 : (Kd.int .u8).C w A0 l.length l) (hc0 : l.length ≤ c0) (h1 : (Kd.int .u8).C w A1 m.length m) (hc1 : m.length ≤ c1) (hl : ∀ x ∈ l, (Lit.int .u8 x).wf = true) (hm : ∀ x ∈ m, (Lit.int .u8 x).wf = true) :
    Calls Tryd.prog 59 #[.slice A0 l.length c0, .slice A1 m.length c1] w fun e w' => e = .returned (.bool (decide (l = m))) ∧ Below w.heap.size w w' := by
  refine (bytes_Equal.calls A0 c0 l A1 c1 m (decide (l = m)) w h0 hc0 h1 hc1 ?_).mono (fun e w' h => ⟨h.1, h.2.below⟩)
  unfold bytes_Equal.f
  congr 1
  rw [Bool.eq_iff_iff, beq_iff_eq, decide_eq_true_iff]
  exact ⟨fun h => str_inj (B8.of_wf hl) (B8.of_wf hm) h, fun h => by rw [h]⟩
theorem nEq_l (l m : List ByteArray) (h : l.length = m.length) (hl : l.length < 9223372036854775807) : ∀ (d k : Nat), k + d = l.length → ∀ K, d + 1 ≤ K → slices_Equal_string_string.l0 K l m (l.length : Int) (k : Int) = some (decide (l.drop k = m.drop k)) := by
  intro d
  induction d with
  | zero =>
    intro k hk K hK
    obtain ⟨K, rfl⟩ : ∃ q, K = q + 1 := ⟨K - 1, by omega⟩
    rw [List.drop_eq_nil_of_le (by omega), List.drop_eq_nil_of_le (by omega)]
    simp only [slices_Equal_string_string.l0]
    exact jf (by omega) (by simp)
  | succ d ih =>
    intro k hk K hK
    obtain ⟨K, rfl⟩ : ∃ q, K = q + 1 := ⟨K - 1, by omega⟩
    have hil : k < l.length := by omega
    have him : k < m.length := by omega
    simp only [slices_Equal_string_string.l0]
    rw [if_pos (by omega), if_pos (by omega), if_pos (by omega), if_pos (by omega), rdB hil, rdB him, nx (by omega), ih (k + 1) (by omega) K (by omega)]
    by_cases he : l[k].toList = m[k].toList
    · rw [if_pos he]
      congr 1
      rw [Bool.eq_iff_iff, decide_eq_true_iff, decide_eq_true_iff, List.drop_eq_getElem_cons hil, List.drop_eq_getElem_cons him, List.cons.injEq]
      exact ⟨fun h => ⟨ba_eq.1 he, h⟩, fun h => h.2⟩
    · rw [if_neg he]
      congr 1
      refine (decide_eq_false (fun h9 => he ?_)).symm
      rw [List.drop_eq_getElem_cons hil, List.drop_eq_getElem_cons him, List.cons.injEq] at h9
      rw [h9.1]
theorem nEq_any (A0 : Option Addr) (c0 : Nat) (l : List ByteArray) (A1 : Option Addr) (c1 : Nat) (m : List ByteArray) (w : World) (h0 : Kd.string.C w A0 l.length l) (hc0 : l.length ≤ c0) (h1 : Kd.string.C w A1 m.length m) (hc1 : m.length ≤ c1) (hl : l.length < 9223372036854775807) :
    Calls Tryd.prog 60 #[.slice A0 l.length c0, .slice A1 m.length c1] w fun e w' => e = .returned (.bool (decide (l = m))) ∧ Below w.heap.size w w' := by
  refine (slices_Equal_string_string.calls (l.length + 1) A0 c0 l A1 c1 m (decide (l = m)) w h0 hc0 h1 hc1 ?_).mono (fun e w' h => ⟨h.1, h.2.below⟩)
  unfold slices_Equal_string_string.f
  by_cases h : l.length = m.length
  · rw [if_pos (by omega)]
    exact nEq_l l m h hl l.length 0 (by omega) _ (Nat.le_refl _)
  · rw [if_neg (by omega)]
    congr 1
    exact (decide_eq_false (fun e => h (by rw [e]))).symm
/-- what alike tells of trees that came in -/
def CL (N : Nat) : Prop := ∀ (M : Nat) (t : S26) (A2 : Option Addr) (c2 : Nat) (A3 : Option Addr) (c3 : Nat) (A4 : Option Addr) (c4 : Nat) (u : S26) (B2 : Option Addr) (d2 : Nat) (B3 : Option Addr) (d3 : Nat) (B4 : Option Addr) (d4 : Nat) (w : World), TR w t A2 c2 A3 c3 A4 c4 → TR w u B2 d2 B3 d3 B4 d4 → GT N t → GT M u →
  Calls Tryd.prog 44 #[TV t A2 c2 A3 c3 A4 c4, TV u B2 d2 B3 d3 B4 d4] w fun e w' => e = .returned (.bool (eqT t u)) ∧ Below w.heap.size w w'
set_option maxRecDepth 20000 in
set_option maxHeartbeats 4000000 in
theorem EqualFunc_any (N M : Nat) (ih : CL N) (ks ls : List S26) (A : Option Addr) (c : Nat) (B : Option Addr) (d : Nat) (w : World) (f : Value) (hf : f = .func (.func 44) #[] #[]) (hA : k26.C w A ks.length ks) (hc : ks.length ≤ c) (hB : k26.C w B ls.length ls) (hd : ls.length ≤ d) (hk : ∀ t ∈ ks, GT N t) (hl : ∀ t ∈ ls, GT M t) (hn : ks.length ≤ 1599289640354) (hm : ls.length ≤ 1599289640354) :
    Calls Tryd.prog 61 #[.slice A ks.length c, .slice B ls.length d, f] w fun e w' => ∃ b : Bool, e = .returned (.bool b) ∧ (b = true ↔ ks = ls) ∧ Below w.heap.size w w' := by
  subst hf
  have HA := Aside0.mk (And.intro hA hB)
  have HK := Aside0.mk (And.intro hk hl)
  have IH := Aside0.mk ih
  clear hA hB hk hl ih
  go_enter Tryd.func61, Tryd.ntmps61
  by_cases hlen : ks.length = ls.length
  rotate_left
  · skip
    have hi : ((ks.length : Int) != (ls.length : Int)) = true := by simp; omega
    go_wp2_with fail
    exact bodyPost_ret (v := .bool false) (by simp [results, Tryd.results61, go_sem]) rfl ⟨false, rfl, ⟨fun h => (by cases h), fun h => absurd (congrArg List.length h) hlen⟩, Below.refl _ w⟩
  have hi : ((ks.length : Int) != (ls.length : Int)) = false := by rw [hlen]; simp
  have HLEN := Aside0.mk hlen
  clear hlen
  go_wp2_with fail
  go_loopw [17] (fun v wr => ∃ k : Nat, v = .int .i64 (k : Int) ∧ k ≤ ks.length ∧ Aside0 (ks.take k = ls.take k) ∧ Aside0 (Below w.heap.size w wr)) (fun v _ => ks.length - (intOf v).toNat)
  case atStart => exact ⟨0, rfl, Nat.zero_le _, ⟨rfl⟩, ⟨Below.refl _ w⟩⟩
  case round =>
    obtain ⟨k, rfl, hk, HE, HB⟩ := hrel
    by_cases hlt : k < ks.length
    · skip
      have hlt2 : k < ls.length := by rw [← HLEN.out]; exact hlt
      obtain ⟨adt, C2, e2, C3, e3, C4, e4, hAt, e0, e1, e2_, e3_, e4_, r1, r2, r3, r4, r5, r6⟩ := at_T26 HA.out.1 (k : Int) (by omega) (by omega)
      obtain ⟨t, ht⟩ : ∃ x, rd_T26 ks (k : Int) = x := ⟨_, rfl⟩
      have hte : ks[k] = t := by rw [← ht, rdT hlt]
      rw [ht] at e0 e1 e2_ e3_ e4_ r1 r2 r3 r4 r5 r6
      rw [Int.toNat_natCast] at e0 e1 e2_ e3_ e4_
      have HTt : Aside0 (TR w t C2 e2 C3 e3 C4 e4) := ⟨⟨r1, r2, r3, r4, r5, r6⟩⟩
      have HEt := Aside0.mk hte
      have HGt : Aside0 (GT N t) := ⟨hte ▸ HK.out.1 _ (List.getElem_mem hlt)⟩
      clear ht hte r1 r2 r3 r4 r5 r6
      obtain ⟨adu, D2, g2, D3, g3, D4, g4, hAu, f0, f1, f2_, f3_, f4_, s1, s2, s3, s4, s5, s6⟩ := at_T26 HA.out.2 (k : Int) (by omega) (by omega)
      obtain ⟨u, hu⟩ : ∃ x, rd_T26 ls (k : Int) = x := ⟨_, rfl⟩
      have hue : ls[k] = u := by rw [← hu, rdT hlt2]
      rw [hu] at f0 f1 f2_ f3_ f4_ s1 s2 s3 s4 s5 s6
      rw [Int.toNat_natCast] at f0 f1 f2_ f3_ f4_
      have HTu : Aside0 (TR w u D2 g2 D3 g3 D4 g4) := ⟨⟨s1, s2, s3, s4, s5, s6⟩⟩
      have HEu := Aside0.mk hue
      have HGu : Aside0 (GT M u) := ⟨hue ▸ HK.out.2 _ (List.getElem_mem hlt2)⟩
      clear hu hue s1 s2 s3 s4 s5 s6
      have hal := below_alloc (Below.refl wr.heap.size wr) (.cells #[.int .i64 t.f0, .bool t.f1, .slice C2 t.f2.length e2, .slice C3 t.f3.length e3, .slice C4 t.f4.length e4] 26)
      have hB1 := below_then HB.out HB.out.size hal
      have y0 := pw_cell_below HB.out e0
      have y1 := pw_cell_below HB.out e1
      have y2 := pw_cell_below HB.out e2_
      have y3 := pw_cell_below HB.out e3_
      have y4 := pw_cell_below HB.out e4_
      have z0 := pw_cell_below hB1 f0
      have z1 := pw_cell_below hB1 f1
      have z2 := pw_cell_below hB1 f2_
      have z3 := pw_cell_below hB1 f3_
      have z4 := pw_cell_below hB1 f4_
      subst hAt
      subst hAu
      clear e0 e1 e2_ e3_ e4_ f0 f1 f2_ f3_ f4_
      have HX := Aside0.mk (heap_alloc_new wr (.cells #[.int .i64 t.f0, .bool t.f1, .slice C2 t.f2.length e2, .slice C3 t.f3.length e3, .slice C4 t.f4.length e4] 26))
      have HB1 := Aside0.mk hB1
      clear hal hB1
      have hk2 : (k : Int) < (ls.length : Int) := by omega
      go_upto_region 6 with fail
      generalize (wr.alloc (.cells #[.int .i64 t.f0, .bool t.f1, .slice C2 t.f2.length e2, .slice C3 t.f3.length e3, .slice C4 t.f4.length e4] 26)) = wa at *
      generalize wr.heap.size = pa at *
      clear y0 y1 y2 y3 y4
      have hal := below_alloc (Below.refl wa.heap.size wa) (.cells #[.int .i64 u.f0, .bool u.f1, .slice D2 u.f2.length g2, .slice D3 u.f3.length g3, .slice D4 u.f4.length g4] 26)
      have HX2 := Aside0.mk (blk_alloc HX.out (.cells #[.int .i64 u.f0, .bool u.f1, .slice D2 u.f2.length g2, .slice D3 u.f3.length g3, .slice D4 u.f4.length g4] 26))
      have HY := Aside0.mk (heap_alloc_new wa (.cells #[.int .i64 u.f0, .bool u.f1, .slice D2 u.f2.length g2, .slice D3 u.f3.length g3, .slice D4 u.f4.length g4] 26))
      have HB2 := Aside0.mk (below_then HB1.out HB1.out.size hal)
      clear hal HX HB1
      go_upto_region 7 with fail
      generalize (wa.alloc (.cells #[.int .i64 u.f0, .bool u.f1, .slice D2 u.f2.length g2, .slice D3 u.f3.length g3, .slice D4 u.f4.length g4] 26)) = wb at *
      generalize wa.heap.size = pb at *
      clear z0 z1 z2 z3 z4
      obtain ⟨x0, x1, x2, x3, x4⟩ := cells5 HX2.out
      obtain ⟨b0, b1, b2, b3, b4⟩ := cells5 HY.out
      go_wp2_with fail
      clear x0 x1 x2 x3 x4
      clear b0 b1 b2 b3 b4
      refine (IH.out M t C2 e2 C3 e3 C4 e4 u D2 g2 D3 g3 D4 g4 wb (HTt.out.below HB2.out) (HTu.out.below HB2.out) HGt.out HGu.out).mono ?_
      rintro e_ w5 ⟨rfl, hb⟩
      have HB5 := Aside0.mk (below_then HB2.out HB2.out.size hb)
      clear hb HX2 HY HB2
      obtain ⟨bb, hbb⟩ : ∃ q, eqT t u = q := ⟨_, rfl⟩
      rw [hbb]
      have HBB := Aside0.mk hbb
      clear hbb
      cases bb with
      | true =>
        go_wp2_with fail
        refine ⟨⟨k + 1, by go_num, by omega, ⟨?_⟩, HB5⟩, by simp [intOf]; omega⟩
        rw [List.take_succ_eq_append_getElem hlt, List.take_succ_eq_append_getElem hlt2, HE.out, HEt.out, HEu.out, eqT_iff.1 HBB.out]
      | false =>
        have HNE : Aside0 (ks ≠ ls) := ⟨fun h9 => by
          have h8 : t = u := by rw [← HEt.out, ← HEu.out]; simp only [h9]
          have := HBB.out
          rw [eqT_true h8] at this
          cases this⟩
        go_wp2_with fail
        exact bodyPost_ret (v := .bool false) (by simp [results, Tryd.results61, go_sem]) rfl ⟨false, rfl, ⟨fun h => (by cases h), fun h => absurd h HNE.out⟩, HB5.out⟩
    · skip
      have hkk : k = ks.length := by omega
      have HEQ : Aside0 (ks = ls) := ⟨by have h9 := HE.out; rw [hkk, List.take_length, HLEN.out, List.take_length] at h9; exact h9⟩
      clear hkk
      go_wp2_with fail
      exact bodyPost_ret (v := .bool true) (by simp [results, Tryd.results61, go_sem]) rfl ⟨true, rfl, ⟨fun _ => HEQ.out, fun _ => rfl⟩, HB.out⟩
set_option maxRecDepth 20000 in
set_option maxHeartbeats 4000000 in
theorem alike_step (N : Nat) (ih : CL N) : CL (N + 1) := by
  intro M t A2 c2 A3 c3 A4 c4 u B2 d2 B3 d3 B4 d4 w ht hu hG hH
  obtain ⟨M, rfl⟩ := GT_pos hH
  have HT := Aside0.mk (And.intro ht hu)
  have HG := Aside0.mk (And.intro hG hH)
  have IH := Aside0.mk ih
  clear ht hu hG hH ih
  obtain ⟨w1, hw1⟩ : ∃ q, w.alloc (.cells #[.int .i64 t.f0, .bool t.f1, .slice A2 t.f2.length c2, .slice A3 t.f3.length c3, .slice A4 t.f4.length c4] 26) = q := ⟨_, rfl⟩
  have h1 : Below w.heap.size w w1 := hw1 ▸ below_alloc (Below.refl _ w) _
  have k1 : w1.heap[w.heap.size]? = some (.cells #[.int .i64 t.f0, .bool t.f1, .slice A2 t.f2.length c2, .slice A3 t.f3.length c3, .slice A4 t.f4.length c4] 26) := hw1 ▸ heap_alloc_new w _
  have k2 := heap_alloc_new w1 (.cells #[.int .i64 u.f0, .bool u.f1, .slice B2 u.f2.length d2, .slice B3 u.f3.length d3, .slice B4 u.f4.length d4] 26)
  have HX := Aside0.mk (blk_alloc k1 (.cells #[.int .i64 u.f0, .bool u.f1, .slice B2 u.f2.length d2, .slice B3 u.f3.length d3, .slice B4 u.f4.length d4] 26))
  have HY := Aside0.mk k2
  have HB := Aside0.mk (below_alloc h1 (.cells #[.int .i64 u.f0, .bool u.f1, .slice B2 u.f2.length d2, .slice B3 u.f3.length d3, .slice B4 u.f4.length d4] 26))
  clear h1 k1 k2
  go_enter Tryd.func44, Tryd.ntmps44
  go_upto_region 1 with fail
  try simp only [hw1]
  generalize w1.alloc (.cells #[.int .i64 u.f0, .bool u.f1, .slice B2 u.f2.length d2, .slice B3 u.f3.length d3, .slice B4 u.f4.length d4] 26) = w2 at *
  clear hw1
  obtain ⟨a, ha⟩ : ∃ q, w.heap.size = q := ⟨_, rfl⟩
  rw [ha] at HX ⊢
  have HAA := Aside0.mk ha
  clear ha
  obtain ⟨b, hb⟩ : ∃ q, w1.heap.size = q := ⟨_, rfl⟩
  rw [hb] at HY ⊢
  clear hb
  obtain ⟨x0, x1, x2, x3, x4⟩ := cells5 HX.out
  obtain ⟨b0, b1, b2, b3, b4⟩ := cells5 HY.out
  by_cases h0 : t.f0 = u.f0
  rotate_left
  · skip
    have hi : (t.f0 != u.f0) = true := by simpa using h0
    have HNE : Aside0 (eqT t u = false) := ⟨eqT_false (fun e => h0 (congrArg S26.f0 e))⟩
    clear h0
    go_wp2_with fail
    exact bodyPost_ret (v := .bool false) (by simp [results, Tryd.results44, go_sem]) rfl ⟨by rw [HNE.out], HAA.out ▸ HB.out⟩
  have hi : (t.f0 != u.f0) = false := by simpa using h0
  have H0 := Aside0.mk h0
  clear h0
  by_cases h1 : t.f1 = u.f1
  rotate_left
  · skip
    have hj : (!(t.f1 == u.f1)) = true := by simpa using h1
    have HNE : Aside0 (eqT t u = false) := ⟨eqT_false (fun e => h1 (congrArg S26.f1 e))⟩
    go_wp2_with fail
    exact bodyPost_ret (v := .bool false) (by simp [results, Tryd.results44, go_sem]) rfl ⟨by rw [HNE.out], HAA.out ▸ HB.out⟩
  have hj : (!(t.f1 == u.f1)) = false := by simpa using h1
  have hj2 : (t.f1 = u.f1) = True := eq_true h1
  have H1 := Aside0.mk h1
  clear h1
  go_wp2_with fail
  clear x0 x1 x2 x3 x4
  clear b0 b1 b2 b3 b4
  refine (bEq_any A2 c2 t.f2 B2 d2 u.f2 w2 (Kd.C_below HT.out.1.2.1 HB.out) HT.out.1.1 (Kd.C_below HT.out.2.2.1 HB.out) HT.out.2.1 HG.out.1.2.1.2.2 HG.out.2.2.1.2.2).mono ?_
  rintro e_ w3 ⟨rfl, hb⟩
  have HX := Aside0.mk ((hb.block _ (blk_lt HX.out)).trans HX.out)
  have HY := Aside0.mk ((hb.block _ (blk_lt HY.out)).trans HY.out)
  have HB := Aside0.mk (below_then HB.out HB.out.size hb)
  clear hb
  obtain ⟨b2, hb2⟩ : ∃ q, decide (t.f2 = u.f2) = q := ⟨_, rfl⟩
  rw [hb2]
  have HD2 := Aside0.mk hb2
  clear hb2
  cases b2 with
  | false =>
    have HNE : Aside0 (eqT t u = false) := ⟨eqT_false (fun e => of_decide_eq_false HD2.out (congrArg S26.f2 e))⟩
    go_wp2_with fail
    exact bodyPost_ret (v := .bool false) (by simp [results, Tryd.results44, go_sem]) rfl ⟨by rw [HNE.out], HAA.out ▸ HB.out⟩
  | true =>
    obtain ⟨x0, x1, x2, x3, x4⟩ := cells5 HX.out
    obtain ⟨b0, b1, b2, b3, b4⟩ := cells5 HY.out
    go_wp2_with fail
    clear x0 x1 x2 x3 x4
    clear b0 b1 b2 b3 b4
    refine (nEq_any A3 c3 t.f3 B3 d3 u.f3 w3 (Kd.C_below HT.out.1.2.2.2.1 HB.out) HT.out.1.2.2.1 (Kd.C_below HT.out.2.2.2.2.1 HB.out) HT.out.2.2.2.1 (by have := HG.out.1.2.2.1.2.1; omega)).mono ?_
    rintro e_ w4 ⟨rfl, hb⟩
    have HX := Aside0.mk ((hb.block _ (blk_lt HX.out)).trans HX.out)
    have HY := Aside0.mk ((hb.block _ (blk_lt HY.out)).trans HY.out)
    have HB := Aside0.mk (below_then HB.out HB.out.size hb)
    clear hb
    obtain ⟨b3, hb3⟩ : ∃ q, decide (t.f3 = u.f3) = q := ⟨_, rfl⟩
    rw [hb3]
    have HD3 := Aside0.mk hb3
    clear hb3
    cases b3 with
    | false =>
      have HNE : Aside0 (eqT t u = false) := ⟨eqT_false (fun e => of_decide_eq_false HD3.out (congrArg S26.f3 e))⟩
      go_wp2_with fail
      exact bodyPost_ret (v := .bool false) (by simp [results, Tryd.results44, go_sem]) rfl ⟨by rw [HNE.out], HAA.out ▸ HB.out⟩
    | true =>
      obtain ⟨x0, x1, x2, x3, x4⟩ := cells5 HX.out
      obtain ⟨b0, b1, b2, b3, b4⟩ := cells5 HY.out
      go_wp2_with fail
      clear x0 x1 x2 x3 x4
      clear b0 b1 b2 b3 b4
      refine (EqualFunc_any N M IH.out t.f4 u.f4 A4 c4 B4 d4 w4 _ rfl (Kd.C_below HT.out.1.2.2.2.2.2 HB.out) HT.out.1.2.2.2.2.1 (Kd.C_below HT.out.2.2.2.2.2.2 HB.out) HT.out.2.2.2.2.2.1 HG.out.1.2.2.2.2.2 HG.out.2.2.2.2.2.2 (by have := HG.out.1.2.2.2.2.1; omega) (by have := HG.out.2.2.2.2.2.1; omega)).mono ?_
      rintro e_ w5 ⟨b4, rfl, hb4, hb⟩
      have HX := Aside0.mk ((hb.block _ (blk_lt HX.out)).trans HX.out)
      have HY := Aside0.mk ((hb.block _ (blk_lt HY.out)).trans HY.out)
      have HB := Aside0.mk (below_then HB.out HB.out.size hb)
      clear hb
      have HEQ : Aside0 (eqT t u = b4) := ⟨by
        rw [Bool.eq_iff_iff, eqT_iff, hb4]
        have h0 := H0.out
        have h1 := H1.out
        have h2 := of_decide_eq_true HD2.out
        have h3 := of_decide_eq_true HD3.out
        refine ⟨fun e => congrArg S26.f4 e, fun h4 => ?_⟩
        cases t; cases u
        simp_all⟩
      clear hb4
      go_wp2_with fail
      exact bodyPost_ret (v := .bool b4) (by simp [results, Tryd.results44, go_sem]) rfl ⟨by rw [HEQ.out], HAA.out ▸ HB.out⟩
theorem alike_any : ∀ N, CL N := by
  intro N
  induction N with
  | zero => intro M t A2 c2 A3 c3 A4 c4 u B2 d2 B3 d3 B4 d4 w ht hu hG; exact hG.elim
  | succ N ih => exact alike_step N ih
end Go.Proofs.YtfnofjcdaghniaaDoor.Tree
/- the reference's Count, both Same. Own work; printed by gen_sb.py. -/
namespace Go.Proofs.YtfnofjcdaghniaaDoor.Tree
set_option linter.unusedVariables false
set_option linter.unusedSimpArgs false
open Go.RowKit Go.Proofs.YtfnofjcdaghniaaDoor.PL Go.Proofs.YtfnofjcdaghniaaDoor.Mt Go.Proofs.YtfnofjcdaghniaaDoorW.PrintWords Go.Proofs.YtfnofjcdaghniaaDoorW.PrintLast Go.Proofs.YtfnofjcdaghniaaDoorW.PrintMore
theorem chk_cnt_le {N d : Nat} {t : S26} (h : CHK N d t) : cntN N t ≤ 65536 := by
  obtain ⟨hG, n, hn, hc⟩ := h
  have h1 := chk_cnt N t d n hG hc
  have h2 := chk_le N t d n hn hc
  omega
theorem count_l (N d : Nat) (ih : ∀ t, CHK N d t → ∃ K, ∀ k, K ≤ k → pantryref4_count.f k t.f0 t.f1 t.f2 t.f3 t.f4 = some ((cntN N t : Int), (cntB N t : Int))) (ks : List S26) (hl : ks.length ≤ 65536) (hg : ∀ a ∈ ks, CHK N d a) (a0 : Int) (a1 : Bool) (x : List Int) (y : List ByteArray) :
    ∀ e i (n b : Nat), i + e = ks.length → n + ((ks.drop i).map (cntN N)).sum ≤ 65536 → b ≤ n * 1048576 → ∃ K, ∀ k, K ≤ k → pantryref4_count.l0 k (n : Int) (b : Int) (i : Int) a0 a1 x y ks = some (((n + ((ks.drop i).map (cntN N)).sum : Nat) : Int), ((b + ((ks.drop i).map (cntB N)).sum : Nat) : Int)) := by
  intro e
  induction e with
  | zero =>
    intro i n b hi _ _
    refine ⟨1, fun k hk => ?_⟩
    obtain ⟨k, rfl⟩ : ∃ q, k = q + 1 := ⟨k - 1, by omega⟩
    simp only [pantryref4_count.l0]
    rw [if_neg (by omega), List.drop_eq_nil_of_le (by omega)]
    simp
  | succ e hd =>
    intro i n b hi hn hb
    have hil : i < ks.length := by omega
    rw [List.drop_eq_getElem_cons hil, List.map_cons, List.sum_cons] at hn
    have hB := cntB_le N d ks[i] (hg _ (List.getElem_mem hil))
    obtain ⟨K1, h1⟩ := ih ks[i] (hg _ (List.getElem_mem hil))
    obtain ⟨K2, h2⟩ := hd (i + 1) (n + cntN N ks[i]) (b + cntB N ks[i]) (by omega) (by omega) (by rw [Nat.add_mul]; exact Nat.add_le_add hb hB)
    have hb2 : b ≤ 65536 * 1048576 := Nat.le_trans hb (Nat.mul_le_mul_right _ (by omega))
    have hB2 : cntB N ks[i] ≤ 65536 * 1048576 := Nat.le_trans hB (Nat.mul_le_mul_right _ (by omega))
    rw [show 65536 * 1048576 = 68719476736 from rfl] at hb2 hB2
    clear hb hB
    refine ⟨K1 + K2 + 1, fun k hk => ?_⟩
    obtain ⟨k, rfl⟩ : ∃ q, k = q + 1 := ⟨k - 1, by omega⟩
    simp only [pantryref4_count.l0]
    have w1 : wrap64 ((n : Int) + (cntN N ks[i] : Int)) = ((n + cntN N ks[i] : Nat) : Int) := by rw [w64 (by omega) (by omega)]; omega
    have w2 : wrap64 ((b : Int) + (cntB N ks[i] : Int)) = ((b + cntB N ks[i] : Nat) : Int) := by rw [w64 (by omega) (by omega)]; omega
    rw [if_pos (by omega), if_pos (by omega), rdT hil, h1 k (by omega), Option.bind_some]
    simp only
    rw [w1, w2, nx (by omega), h2 k (by omega), List.drop_eq_getElem_cons hil, List.map_cons, List.sum_cons, List.map_cons, List.sum_cons, Nat.add_assoc, Nat.add_assoc]
theorem count_ev : ∀ (N d : Nat) (t : S26), CHK N d t → ∃ K, ∀ k, K ≤ k → pantryref4_count.f k t.f0 t.f1 t.f2 t.f3 t.f4 = some ((cntN N t : Int), (cntB N t : Int)) := by
  intro N
  induction N with
  | zero => intro d t h; exact h.1.elim
  | succ N ih =>
    intro d t h
    obtain ⟨k1, k2, k3, k4, k5⟩ := h.node
    have hc := chk_cnt_le h
    have h4 := cnt_len N t.f4 h.1.2.2.2.2.2
    have hcn : cntN (N + 1) t = 1 + (t.f4.map (cntN N)).sum := by rw [cntN]
    by_cases h1 : t.f0 = 1
    · have hb := formE_big k1 h1
      obtain ⟨K, hK⟩ := count_l N (d + 1) (fun u hu => ih (d + 1) u hu) t.f4 (by omega) k5 t.f0 t.f1 t.f2 t.f3 t.f4.length 0 1 t.f2.length (by omega) (by rw [List.drop_zero]; omega) (by rw [Nat.one_mul]; exact hb)
      refine ⟨K + 2, fun k hk => ?_⟩
      obtain ⟨k, rfl⟩ : ∃ q, k = q + 2 := ⟨k - 2, by omega⟩
      simp only [pantryref4_count.f, pantryref4_count.j0]
      rw [if_pos h1]
      refine (hK k (by omega)).trans ?_
      rw [List.drop_zero, cntN, cntB, if_pos h1]
    · obtain ⟨K, hK⟩ := count_l N (d + 1) (fun u hu => ih (d + 1) u hu) t.f4 (by omega) k5 t.f0 t.f1 t.f2 t.f3 t.f4.length 0 1 0 (by omega) (by rw [List.drop_zero]; omega) (Nat.zero_le _)
      refine ⟨K + 2, fun k hk => ?_⟩
      obtain ⟨k, rfl⟩ : ∃ q, k = q + 2 := ⟨k - 2, by omega⟩
      simp only [pantryref4_count.f, pantryref4_count.j0]
      rw [if_neg h1]
      refine (hK k (by omega)).trans ?_
      rw [List.drop_zero, cntN, cntB, if_neg h1]
set_option maxRecDepth 20000 in
set_option maxHeartbeats 2000000 in
theorem RCount_any (N : Nat) (t : S26) (A2 : Option Addr) (c2 : Nat) (A3 : Option Addr) (c3 : Nat) (A4 : Option Addr) (c4 : Nat) (w : World) (ht : TR w t A2 c2 A3 c3 A4 c4) (hG : GT N t) :
    Calls Tryd.prog 26 #[TV t A2 c2 A3 c3 A4 c4] w fun e w' => e = .returned (.tuple #[.int .i64 ((CountS N t).1 : Int), .int .i64 ((CountS N t).2 : Int)]) ∧ Below w.heap.size w w' := by
  have HT := Aside0.mk ht
  have HG := Aside0.mk hG
  clear ht hG
  have HX := Aside0.mk (heap_alloc_new w (.cells #[.int .i64 t.f0, .bool t.f1, .slice A2 t.f2.length c2, .slice A3 t.f3.length c3, .slice A4 t.f4.length c4] 26))
  have HB := Aside0.mk (below_alloc (Below.refl w.heap.size w) (.cells #[.int .i64 t.f0, .bool t.f1, .slice A2 t.f2.length c2, .slice A3 t.f3.length c3, .slice A4 t.f4.length c4] 26))
  go_enter Tryd.func26, Tryd.ntmps26
  go_upto_region 1 with fail
  generalize w.alloc (.cells #[.int .i64 t.f0, .bool t.f1, .slice A2 t.f2.length c2, .slice A3 t.f3.length c3, .slice A4 t.f4.length c4] 26) = w2 at *
  obtain ⟨a, ha⟩ : ∃ q, w.heap.size = q := ⟨_, rfl⟩
  rw [ha] at HX ⊢
  have HAA := Aside0.mk ha
  clear ha
  obtain ⟨x0, x1, x2, x3, x4⟩ := cells5 HX.out
  go_wp2_with fail
  clear x0 x1 x2 x3 x4
  refine (RCheck_any N t A2 c2 A3 c3 A4 c4 w2 (HT.out.below HB.out) HG.out).mono ?_
  rintro e w3 ⟨rfl, hb⟩
  have HX := Aside0.mk ((hb.block _ (blk_lt HX.out)).trans HX.out)
  have HB := Aside0.mk (below_then HB.out HB.out.size hb)
  clear hb
  obtain ⟨k, hk⟩ : ∃ q, (chk N t 1 0).1 = q := ⟨_, rfl⟩
  rw [hk]
  have HK := Aside0.mk hk
  clear hk
  by_cases hz : k = 0
  rotate_left
  · skip
    have HE : Aside0 (CountS N t = (0, 0)) := ⟨by unfold CountS; rw [HK.out, if_pos hz]⟩
    have hkb : (k != 0) = true := by simpa using hz
    clear hz
    go_wp2_with fail
    exact bodyPost_ret (v := .tuple #[.int .i64 0, .int .i64 0]) (by simp [results, Tryd.results26, go_sem]) rfl ⟨by rw [HE.out]; rfl, HAA.out ▸ HB.out⟩
  subst hz
  obtain ⟨x0, x1, x2, x3, x4⟩ := cells5 HX.out
  go_wp2_with fail
  clear x0 x1 x2 x3 x4
  obtain ⟨K, hK⟩ := count_ev N 1 t ⟨HG.out, 0, by omega, HK.out⟩
  have HT3 := Aside0.mk (HT.out.below HB.out)
  refine (pantryref4_count.calls K t.f0 t.f1 A2 c2 t.f2 A3 c3 t.f3 A4 c4 t.f4 _ _ w3 HT3.out.2.1 HT3.out.1 HT3.out.2.2.2.1 HT3.out.2.2.1 HT3.out.2.2.2.2.2 HT3.out.2.2.2.2.1 (hK K (Nat.le_refl _))).mono ?_
  clear hK
  have HE : Aside0 (CountS N t = (cntN N t, cntB N t)) := ⟨by unfold CountS; rw [HK.out, if_neg (by simp)]⟩
  obtain ⟨nn, hnn⟩ : ∃ q, cntN N t = q := ⟨_, rfl⟩
  obtain ⟨bb, hbb⟩ : ∃ q, cntB N t = q := ⟨_, rfl⟩
  rw [hnn, hbb] at HE
  rw [hnn, hbb]
  clear hnn hbb
  rintro e_ w4 ⟨rfl, hb⟩
  have HX := Aside0.mk ((hb.block _ (blk_lt HX.out)).trans HX.out)
  have HB := Aside0.mk (below_then HB.out HB.out.size hb)
  clear hb
  go_wp2_with fail
  exact bodyPost_ret (v := .tuple #[.int .i64 (nn : Int), .int .i64 (bb : Int)]) (by simp [results, Tryd.results26, go_sem]) rfl ⟨by rw [HE.out], HAA.out ▸ HB.out⟩
/-- what Same tells -/
noncomputable def SameS (N M : Nat) (t u : S26) : Bool := decide ((chk N t 1 0).1 = 0) && (decide ((chk M u 1 0).1 = 0) && eqT t u)
set_option maxRecDepth 20000 in
set_option maxHeartbeats 4000000 in
theorem Same_any (N M : Nat) (t : S26) (A2 : Option Addr) (c2 : Nat) (A3 : Option Addr) (c3 : Nat) (A4 : Option Addr) (c4 : Nat) (u : S26) (B2 : Option Addr) (d2 : Nat) (B3 : Option Addr) (d3 : Nat) (B4 : Option Addr) (d4 : Nat) (w : World) (ht : TR w t A2 c2 A3 c3 A4 c4) (hu : TR w u B2 d2 B3 d3 B4 d4) (hG : GT N t) (hH : GT M u) :
    Calls Tryd.prog 27 #[TV t A2 c2 A3 c3 A4 c4, TV u B2 d2 B3 d3 B4 d4] w fun e w' => e = .returned (.bool (SameS N M t u)) ∧ Below w.heap.size w w' := by
  have HT := Aside0.mk (And.intro ht hu)
  have HG := Aside0.mk (And.intro hG hH)
  clear ht hu hG hH
  obtain ⟨w1, hw1⟩ : ∃ q, w.alloc (.cells #[.int .i64 t.f0, .bool t.f1, .slice A2 t.f2.length c2, .slice A3 t.f3.length c3, .slice A4 t.f4.length c4] 26) = q := ⟨_, rfl⟩
  have h1 : Below w.heap.size w w1 := hw1 ▸ below_alloc (Below.refl _ w) _
  have k1 : w1.heap[w.heap.size]? = some (.cells #[.int .i64 t.f0, .bool t.f1, .slice A2 t.f2.length c2, .slice A3 t.f3.length c3, .slice A4 t.f4.length c4] 26) := hw1 ▸ heap_alloc_new w _
  have HX := Aside0.mk (blk_alloc k1 (.cells #[.int .i64 u.f0, .bool u.f1, .slice B2 u.f2.length d2, .slice B3 u.f3.length d3, .slice B4 u.f4.length d4] 26))
  have HY := Aside0.mk (heap_alloc_new w1 (.cells #[.int .i64 u.f0, .bool u.f1, .slice B2 u.f2.length d2, .slice B3 u.f3.length d3, .slice B4 u.f4.length d4] 26))
  have HB := Aside0.mk (below_alloc h1 (.cells #[.int .i64 u.f0, .bool u.f1, .slice B2 u.f2.length d2, .slice B3 u.f3.length d3, .slice B4 u.f4.length d4] 26))
  clear h1 k1
  go_enter Tryd.func27, Tryd.ntmps27
  go_upto_region 1 with fail
  generalize w1.alloc (.cells #[.int .i64 u.f0, .bool u.f1, .slice B2 u.f2.length d2, .slice B3 u.f3.length d3, .slice B4 u.f4.length d4] 26) = w2 at *
  clear hw1
  obtain ⟨a, ha⟩ : ∃ q, w.heap.size = q := ⟨_, rfl⟩
  rw [ha] at HX ⊢
  have HAA := Aside0.mk ha
  clear ha
  obtain ⟨b, hb⟩ : ∃ q, w1.heap.size = q := ⟨_, rfl⟩
  rw [hb] at HY ⊢
  clear hb
  obtain ⟨x0, x1, x2, x3, x4⟩ := cells5 HX.out
  go_wp2_with fail
  clear x0 x1 x2 x3 x4
  refine (Check_any N t A2 c2 A3 c3 A4 c4 w2 (HT.out.1.below HB.out) HG.out.1).mono ?_
  rintro e w3 ⟨rfl, hb⟩
  have HX := Aside0.mk ((hb.block _ (blk_lt HX.out)).trans HX.out)
  have HY := Aside0.mk ((hb.block _ (blk_lt HY.out)).trans HY.out)
  have HB := Aside0.mk (below_then HB.out HB.out.size hb)
  clear hb
  obtain ⟨k, hk⟩ : ∃ q, (chk N t 1 0).1 = q := ⟨_, rfl⟩
  rw [hk]
  have HK := Aside0.mk hk
  clear hk
  by_cases hz : k = 0
  rotate_left
  · skip
    have HE : Aside0 (SameS N M t u = false) := ⟨by unfold SameS; rw [HK.out, decide_eq_false hz]; rfl⟩
    have hkb : (k == 0) = false := by simpa using hz
    clear hz
    go_wp2_with fail
    exact bodyPost_ret (v := .bool false) (by simp [results, Tryd.results27, go_sem]) rfl ⟨by rw [HE.out], HAA.out ▸ HB.out⟩
  subst hz
  obtain ⟨x0, x1, x2, x3, x4⟩ := cells5 HY.out
  go_wp2_with fail
  clear x0 x1 x2 x3 x4
  refine (Check_any M u B2 d2 B3 d3 B4 d4 w3 (HT.out.2.below HB.out) HG.out.2).mono ?_
  rintro e w4 ⟨rfl, hb⟩
  have HX := Aside0.mk ((hb.block _ (blk_lt HX.out)).trans HX.out)
  have HY := Aside0.mk ((hb.block _ (blk_lt HY.out)).trans HY.out)
  have HB := Aside0.mk (below_then HB.out HB.out.size hb)
  clear hb
  obtain ⟨k, hk⟩ : ∃ q, (chk M u 1 0).1 = q := ⟨_, rfl⟩
  rw [hk]
  have HK2 := Aside0.mk hk
  clear hk
  by_cases hz : k = 0
  rotate_left
  · skip
    have HE : Aside0 (SameS N M t u = false) := ⟨by unfold SameS; rw [HK2.out, decide_eq_false hz, Bool.false_and, Bool.and_false]⟩
    have hkb : (k == 0) = false := by simpa using hz
    clear hz
    go_wp2_with fail
    exact bodyPost_ret (v := .bool false) (by simp [results, Tryd.results27, go_sem]) rfl ⟨by rw [HE.out], HAA.out ▸ HB.out⟩
  subst hz
  obtain ⟨x0, x1, x2, x3, x4⟩ := cells5 HX.out
  obtain ⟨b0, b1, b2, b3, b4⟩ := cells5 HY.out
  go_wp2_with fail
  clear x0 x1 x2 x3 x4
  clear b0 b1 b2 b3 b4
  have HE : Aside0 (SameS N M t u = eqT t u) := ⟨by unfold SameS; rw [HK.out, HK2.out]; simp⟩
  obtain ⟨bb, hbb⟩ : ∃ q, eqT t u = q := ⟨_, rfl⟩
  refine (alike_any N M t A2 c2 A3 c3 A4 c4 u B2 d2 B3 d3 B4 d4 w4 (HT.out.1.below HB.out) (HT.out.2.below HB.out) HG.out.1 HG.out.2).mono ?_
  rw [hbb]
  rw [hbb] at HE
  clear hbb
  rintro e_ w5 ⟨rfl, hb⟩
  have HX := Aside0.mk ((hb.block _ (blk_lt HX.out)).trans HX.out)
  have HY := Aside0.mk ((hb.block _ (blk_lt HY.out)).trans HY.out)
  have HB := Aside0.mk (below_then HB.out HB.out.size hb)
  clear hb
  go_wp2_with fail
  exact bodyPost_ret (v := .bool bb) (by simp [results, Tryd.results27, go_sem]) rfl ⟨by rw [HE.out], HAA.out ▸ HB.out⟩
set_option maxRecDepth 20000 in
set_option maxHeartbeats 4000000 in
theorem RSame_any (N M : Nat) (t : S26) (A2 : Option Addr) (c2 : Nat) (A3 : Option Addr) (c3 : Nat) (A4 : Option Addr) (c4 : Nat) (u : S26) (B2 : Option Addr) (d2 : Nat) (B3 : Option Addr) (d3 : Nat) (B4 : Option Addr) (d4 : Nat) (w : World) (ht : TR w t A2 c2 A3 c3 A4 c4) (hu : TR w u B2 d2 B3 d3 B4 d4) (hG : GT N t) (hH : GT M u) :
    Calls Tryd.prog 28 #[TV t A2 c2 A3 c3 A4 c4, TV u B2 d2 B3 d3 B4 d4] w fun e w' => e = .returned (.bool (SameS N M t u)) ∧ Below w.heap.size w w' := by
  have HT := Aside0.mk (And.intro ht hu)
  have HG := Aside0.mk (And.intro hG hH)
  clear ht hu hG hH
  obtain ⟨w1, hw1⟩ : ∃ q, w.alloc (.cells #[.int .i64 t.f0, .bool t.f1, .slice A2 t.f2.length c2, .slice A3 t.f3.length c3, .slice A4 t.f4.length c4] 26) = q := ⟨_, rfl⟩
  have h1 : Below w.heap.size w w1 := hw1 ▸ below_alloc (Below.refl _ w) _
  have k1 : w1.heap[w.heap.size]? = some (.cells #[.int .i64 t.f0, .bool t.f1, .slice A2 t.f2.length c2, .slice A3 t.f3.length c3, .slice A4 t.f4.length c4] 26) := hw1 ▸ heap_alloc_new w _
  have HX := Aside0.mk (blk_alloc k1 (.cells #[.int .i64 u.f0, .bool u.f1, .slice B2 u.f2.length d2, .slice B3 u.f3.length d3, .slice B4 u.f4.length d4] 26))
  have HY := Aside0.mk (heap_alloc_new w1 (.cells #[.int .i64 u.f0, .bool u.f1, .slice B2 u.f2.length d2, .slice B3 u.f3.length d3, .slice B4 u.f4.length d4] 26))
  have HB := Aside0.mk (below_alloc h1 (.cells #[.int .i64 u.f0, .bool u.f1, .slice B2 u.f2.length d2, .slice B3 u.f3.length d3, .slice B4 u.f4.length d4] 26))
  clear h1 k1
  go_enter Tryd.func28, Tryd.ntmps28
  go_upto_region 1 with fail
  generalize w1.alloc (.cells #[.int .i64 u.f0, .bool u.f1, .slice B2 u.f2.length d2, .slice B3 u.f3.length d3, .slice B4 u.f4.length d4] 26) = w2 at *
  clear hw1
  obtain ⟨a, ha⟩ : ∃ q, w.heap.size = q := ⟨_, rfl⟩
  rw [ha] at HX ⊢
  have HAA := Aside0.mk ha
  clear ha
  obtain ⟨b, hb⟩ : ∃ q, w1.heap.size = q := ⟨_, rfl⟩
  rw [hb] at HY ⊢
  clear hb
  obtain ⟨x0, x1, x2, x3, x4⟩ := cells5 HX.out
  go_wp2_with fail
  clear x0 x1 x2 x3 x4
  refine (RCheck_any N t A2 c2 A3 c3 A4 c4 w2 (HT.out.1.below HB.out) HG.out.1).mono ?_
  rintro e w3 ⟨rfl, hb⟩
  have HX := Aside0.mk ((hb.block _ (blk_lt HX.out)).trans HX.out)
  have HY := Aside0.mk ((hb.block _ (blk_lt HY.out)).trans HY.out)
  have HB := Aside0.mk (below_then HB.out HB.out.size hb)
  clear hb
  obtain ⟨k, hk⟩ : ∃ q, (chk N t 1 0).1 = q := ⟨_, rfl⟩
  rw [hk]
  have HK := Aside0.mk hk
  clear hk
  by_cases hz : k = 0
  rotate_left
  · skip
    have HE : Aside0 (SameS N M t u = false) := ⟨by unfold SameS; rw [HK.out, decide_eq_false hz]; rfl⟩
    have hkb : (k == 0) = false := by simpa using hz
    clear hz
    go_wp2_with fail
    exact bodyPost_ret (v := .bool false) (by simp [results, Tryd.results28, go_sem]) rfl ⟨by rw [HE.out], HAA.out ▸ HB.out⟩
  subst hz
  obtain ⟨x0, x1, x2, x3, x4⟩ := cells5 HY.out
  go_wp2_with fail
  clear x0 x1 x2 x3 x4
  refine (RCheck_any M u B2 d2 B3 d3 B4 d4 w3 (HT.out.2.below HB.out) HG.out.2).mono ?_
  rintro e w4 ⟨rfl, hb⟩
  have HX := Aside0.mk ((hb.block _ (blk_lt HX.out)).trans HX.out)
  have HY := Aside0.mk ((hb.block _ (blk_lt HY.out)).trans HY.out)
  have HB := Aside0.mk (below_then HB.out HB.out.size hb)
  clear hb
  obtain ⟨k, hk⟩ : ∃ q, (chk M u 1 0).1 = q := ⟨_, rfl⟩
  rw [hk]
  have HK2 := Aside0.mk hk
  clear hk
  by_cases hz : k = 0
  rotate_left
  · skip
    have HE : Aside0 (SameS N M t u = false) := ⟨by unfold SameS; rw [HK2.out, decide_eq_false hz, Bool.false_and, Bool.and_false]⟩
    have hkb : (k == 0) = false := by simpa using hz
    clear hz
    go_wp2_with fail
    exact bodyPost_ret (v := .bool false) (by simp [results, Tryd.results28, go_sem]) rfl ⟨by rw [HE.out], HAA.out ▸ HB.out⟩
  subst hz
  obtain ⟨x0, x1, x2, x3, x4⟩ := cells5 HX.out
  obtain ⟨b0, b1, b2, b3, b4⟩ := cells5 HY.out
  go_wp2_with fail
  clear x0 x1 x2 x3 x4
  clear b0 b1 b2 b3 b4
  have HE : Aside0 (SameS N M t u = eqT t u) := ⟨by unfold SameS; rw [HK.out, HK2.out]; simp⟩
  obtain ⟨bb, hbb⟩ : ∃ q, eqT t u = q := ⟨_, rfl⟩
  refine (Equal_any N M t u A2 c2 A3 c3 A4 c4 B2 d2 B3 d3 B4 d4 w4 (HT.out.1.below HB.out) (HT.out.2.below HB.out) HG.out.1 HG.out.2).mono ?_
  rw [hbb]
  rw [hbb] at HE
  clear hbb
  rintro e_ w5 ⟨rfl, hb⟩
  have HX := Aside0.mk ((hb.block _ (blk_lt HX.out)).trans HX.out)
  have HY := Aside0.mk ((hb.block _ (blk_lt HY.out)).trans HY.out)
  have HB := Aside0.mk (below_then HB.out HB.out.size hb)
  clear hb
  go_wp2_with fail
  exact bodyPost_ret (v := .bool bb) (by simp [results, Tryd.results28, go_sem]) rfl ⟨by rw [HE.out], HAA.out ▸ HB.out⟩
end Go.Proofs.YtfnofjcdaghniaaDoor.Tree
/- sorted lists of texts, as plain laws. Own work. -/
namespace Go.Proofs.YtfnofjcdaghniaaDoor.Tree
set_option linter.unusedVariables false
set_option linter.unusedSimpArgs false
open Go.RowKit Go.Proofs.YtfnofjcdaghniaaDoor.PL Go.Proofs.YtfnofjcdaghniaaDoor.Mt Go.Proofs.YtfnofjcdaghniaaDoorW.PrintWords Go.Proofs.YtfnofjcdaghniaaDoorW.PrintLast Go.Proofs.YtfnofjcdaghniaaDoorW.PrintMore
theorem bl_lt : ∀ (x y : List UInt8), Op.bytesLess x y = decide (x < y) := by
  intro x
  induction x with
  | nil => intro y; cases y <;> simp [Op.bytesLess]
  | cons a x ih =>
    intro y
    cases y with
    | nil => simp [Op.bytesLess]
    | cons b y =>
      rw [Bool.eq_iff_iff, decide_eq_true_iff, List.cons_lt_cons_iff]
      unfold Op.bytesLess
      by_cases h1 : a < b
      · simp [h1]
      · by_cases h2 : a = b
        · subst h2
          simp [ih y]
        · have h3 : b < a := by
            have := UInt8.lt_or_eq_of_le (UInt8.not_lt.1 h1)
            rcases this with h | h
            · exact h
            · exact absurd h.symm h2
          simp [h1, h2, h3]
theorem le_ltB {a b : ByteArray} : decide (a.toList ≤ b.toList) = !ltB b a := by
  unfold ltB
  rw [bl_lt, Bool.eq_iff_iff]
  simp [List.not_lt]
theorem ltB_le_trans {a b c : ByteArray} (h : ltB b a = false) (k : ltB c b = false) : ltB c a = false := by
  cases hc : ltB c a with
  | false => rfl
  | true =>
    cases hab : ltB a b with
    | true => have := ltB_trans hc hab; rw [k] at this; cases this
    | false => have := ltB_tri hab h; subst this; rw [k] at hc; cases hc
/-- in order -/
def Ord (l : List ByteArray) : Prop := l.Pairwise (fun a b => ltB b a = false)
theorem sortS_perm (xs : List ByteArray) : (sortS xs).Perm xs := by
  unfold sortS
  have h := (List.mergeSort_perm (xs.map ByteArray.toList) (fun x y => decide (x ≤ y))).map (fun l : List UInt8 => (⟨l.toArray⟩ : ByteArray))
  rw [List.map_map] at h
  refine h.trans (List.Perm.of_eq ?_)
  conv => rhs; rw [← List.map_id xs]
  exact List.map_congr_left (fun s _ => of_toList s)
theorem sortS_ord (xs : List ByteArray) : Ord (sortS xs) := by
  unfold Ord sortS
  have h := List.pairwise_mergeSort (le := fun (x y : List UInt8) => decide (x ≤ y)) (fun a b c h k => by
    simp only [decide_eq_true_eq] at h k ⊢
    exact List.le_trans h k) (fun a b => by
    simp only [Bool.or_eq_true, decide_eq_true_eq]
    exact List.le_total a b) (xs.map ByteArray.toList)
  rw [List.pairwise_map]
  refine h.imp (fun {a b} hab => ?_)
  have e : ∀ l : List UInt8, (⟨l.toArray⟩ : ByteArray).toList = l := fun l => by rw [toList_data]
  have h2 := le_ltB (a := ⟨a.toArray⟩) (b := ⟨b.toArray⟩)
  rw [e, e, hab] at h2
  cases h3 : ltB (⟨b.toArray⟩ : ByteArray) ⟨a.toArray⟩ with
  | false => rfl
  | true => rw [h3] at h2; cases h2
theorem ord_eq {l m : List ByteArray} (hl : Ord l) (hm : Ord m) (h : l.Perm m) : l = m :=
  List.Perm.eq_of_pairwise (fun a b _ _ h1 h2 => (ltB_tri h1 h2).symm) hl hm h
/-- the element at a place -/
abbrev at_ (ys : List ByteArray) (i : Nat) : ByteArray := ys.getD i ByteArray.empty
theorem at_set {ys : List ByteArray} {i j : Nat} {x : ByteArray} (hi : i < ys.length) : at_ (ys.set i x) j = if j = i then x else at_ ys j := by
  unfold at_
  rw [List.getD_eq_getElem?_getD, List.getD_eq_getElem?_getD, List.getElem?_set]
  by_cases h : i = j
  · subst h; rw [if_pos rfl, if_pos hi, if_pos rfl]; rfl
  · rw [if_neg h, if_neg (fun e => h e.symm)]
theorem at_get {ys : List ByteArray} {i : Nat} (hi : i < ys.length) : at_ ys i = ys[i] := by
  unfold at_
  rw [List.getD_eq_getElem?_getD, List.getElem?_eq_getElem hi]; rfl
/-- in order up to i, the one at k apart, that may stand too far behind -/
def InsP (ys : List ByteArray) (i k : Nat) : Prop := ∀ a b, a < b → b ≤ i → b ≠ k → ltB (at_ ys b) (at_ ys a) = false
def SrtP (ys : List ByteArray) (m : Nat) : Prop := ∀ a b, a < b → b < m → ltB (at_ ys b) (at_ ys a) = false
theorem InsP.of {ys : List ByteArray} {i : Nat} (h : SrtP ys i) : InsP ys i i := fun a b hab hb hk => h a b hab (by omega)
theorem InsP.zero {ys : List ByteArray} {i : Nat} (h : InsP ys i 0) : SrtP ys (i + 1) := fun a b hab hb => h a b hab (by omega) (by omega)
theorem InsP.stop {ys : List ByteArray} {i k : Nat} (h : InsP ys i k) (hk : 0 < k) (hki : k ≤ i) (hs : ltB (at_ ys k) (at_ ys (k - 1)) = false) : SrtP ys (i + 1) := by
  intro a b hab hb
  by_cases hbk : b = k
  · subst hbk
    by_cases ha : a = b - 1
    · subst ha; exact hs
    · exact ltB_le_trans (h a (b - 1) (by omega) (by omega) (by omega)) hs
  · exact h a b hab (by omega) hbk
theorem InsP.swap {ys : List ByteArray} {i k : Nat} (h : InsP ys i k) (hk : 0 < k) (hki : k ≤ i) (hi : i < ys.length) (hs : ltB (at_ ys k) (at_ ys (k - 1)) = true) :
    InsP ((ys.set k (at_ ys (k - 1))).set (k - 1) (at_ ys k)) i (k - 1) := by
  have e : ∀ j, at_ ((ys.set k (at_ ys (k - 1))).set (k - 1) (at_ ys k)) j = if j = k - 1 then at_ ys k else if j = k then at_ ys (k - 1) else at_ ys j := fun j => by
    rw [at_set (by rw [List.length_set]; omega), at_set (by omega)]
  intro a b hab hb hbk
  rw [e, e, if_neg hbk]
  by_cases h1 : b = k
  · subst h1
    rw [if_pos rfl]
    by_cases ha : a = b - 1
    · rw [if_pos ha]; exact ltB_asymm hs
    · rw [if_neg ha, if_neg (by omega)]
      exact h a (b - 1) (by omega) (by omega) (by omega)
  · rw [if_neg h1]
    by_cases ha : a = k - 1
    · rw [if_pos ha]; exact h k b (by omega) hb h1
    · rw [if_neg ha]
      by_cases ha2 : a = k
      · rw [if_pos ha2]; exact h (k - 1) b (by omega) hb h1
      · rw [if_neg ha2]; exact h a b hab hb h1
theorem swap_perm {ys : List ByteArray} {k : Nat} (hk : 0 < k) (hi : k < ys.length) : ((ys.set k (at_ ys (k - 1))).set (k - 1) (at_ ys k)).Perm ys := by
  rw [at_get hi, at_get (show k - 1 < ys.length by omega)]
  exact List.set_set_perm hi (by omega)
theorem srt_ord {ys : List ByteArray} (h : SrtP ys ys.length) : Ord ys := by
  unfold Ord
  rw [List.pairwise_iff_getElem]
  intro i j hi hj hij
  have := h i j hij hj
  rw [at_get hi, at_get hj] at this
  exact this
theorem srt_sort {ys xs : List ByteArray} (h : SrtP ys ys.length) (hp : ys.Perm xs) : ys = sortS xs :=
  ord_eq (srt_ord h) (sortS_ord xs) (hp.trans (sortS_perm xs).symm)
end Go.Proofs.YtfnofjcdaghniaaDoor.Tree
/- the reference's walk, walked. Own work; printed by gen_wk.py out of FiA. -/
namespace Go.Proofs.YtfnofjcdaghniaaDoor.Tree
set_option linter.unusedVariables false
set_option linter.unusedSimpArgs false
open Go.RowKit Go.Proofs.YtfnofjcdaghniaaDoor.PL Go.Proofs.YtfnofjcdaghniaaDoor.Mt Go.Proofs.YtfnofjcdaghniaaDoorW.PrintWords Go.Proofs.YtfnofjcdaghniaaDoorW.PrintLast Go.Proofs.YtfnofjcdaghniaaDoorW.PrintMore
def CW (w0 : World) (N : Nat) : Prop := ∀ (t : S26) (A2 : Option Addr) (c2 : Nat) (A3 : Option Addr) (c3 : Nat) (A4 : Option Addr) (c4 : Nat) (p : ByteArray) (w : World) (g : Nat) (A : Option Addr) (c : Nat) (xs : List ByteArray) (d : Nat), TR w0 t A2 c2 A3 c3 A4 c4 → CHK N d t → p.size ≤ 200 * d → w0.heap.size ≤ g → FL w0 w g A c xs → xs.length + cntN N t ≤ 65536 →
  Calls Tryd.prog 37 #[TV t A2 c2 A3 c3 A4 c4, .string p, .pointer (some ⟨g, 0, none⟩)] w fun e w' => e = .returned (.tuple #[]) ∧ ∃ A' c', FL w0 w' g A' c' (xs ++ filesS N t p) ∧ KeepBut w w' g (Value.slice A xs.length c).ownBlock ∧ ((Value.slice A' (xs ++ filesS N t p).length c').ownBlock = (Value.slice A xs.length c).ownBlock ∨ ∃ b, (Value.slice A' (xs ++ filesS N t p).length c').ownBlock = some b ∧ w.heap.size ≤ b)
set_option maxRecDepth 20000 in
set_option maxHeartbeats 2000000 in
theorem walk_leaf (w0 : World) (N : Nat) (t : S26) (A2 : Option Addr) (c2 : Nat) (A3 : Option Addr) (c3 : Nat) (A4 : Option Addr) (c4 : Nat) (p : ByteArray) (w : World) (g : Nat) (A : Option Addr) (c : Nat) (xs : List ByteArray) (h1 : t.f0 = 1) (hk : t.f4 = []) (hg : w0.heap.size ≤ g) (hF : FL w0 w g A c xs) (hl : xs.length < 65536) :
  Calls Tryd.prog 37 #[TV t A2 c2 A3 c3 A4 c4, .string p, .pointer (some ⟨g, 0, none⟩)] w fun e w' => e = .returned (.tuple #[]) ∧ ∃ A' c', FL w0 w' g A' c' (xs ++ [p]) ∧ KeepBut w w' g (Value.slice A xs.length c).ownBlock ∧ ((Value.slice A' (xs ++ [p]).length c').ownBlock = (Value.slice A xs.length c).ownBlock ∨ ∃ b, (Value.slice A' (xs ++ [p]).length c').ownBlock = some b ∧ w.heap.size ≤ b) := by
  have hb1 := below_alloc (Below.refl w.heap.size w) (.cells #[.int .i64 t.f0, .bool t.f1, .slice A2 t.f2.length c2, .slice A3 t.f3.length c3, .slice A4 t.f4.length c4] 26)
  have HF1 := Aside0.mk (hF.below hb1)
  have HP1 := Aside0.mk (heap_alloc_new w (.cells #[.int .i64 t.f0, .bool t.f1, .slice A2 t.f2.length c2, .slice A3 t.f3.length c3, .slice A4 t.f4.length c4] 26))
  have HK1 : Aside0 (KeepBut w (w.alloc (.cells #[.int .i64 t.f0, .bool t.f1, .slice A2 t.f2.length c2, .slice A3 t.f3.length c3, .slice A4 t.f4.length c4] 26)) g (Value.slice A xs.length c).ownBlock) := ⟨KeepBut.of_below hb1 g _⟩
  have HO : Aside0 (∀ k, (Value.slice A xs.length c).ownBlock = some k → k < w.heap.size) := ⟨Kd.R_lt hF.r⟩
  have HSZ : Aside0 (w.heap.size ≤ (w.alloc (.cells #[.int .i64 t.f0, .bool t.f1, .slice A2 t.f2.length c2, .slice A3 t.f3.length c3, .slice A4 t.f4.length c4] 26)).heap.size) := ⟨hb1.size⟩
  have hpg : w.heap.size ≠ g := by have := blk_lt hF.blk; omega
  have HG := Aside0.mk hg
  have HK4 : Aside0 (t.f4.length = 0) := ⟨by rw [hk]; rfl⟩
  have hf0 : (t.f0 == 1) = true := by simp [h1]
  have hpo : Aside0 (some w.heap.size ≠ (Value.slice A xs.length c).ownBlock) := ⟨fun he => by have := HO.out _ he.symm; omega⟩
  clear hF hb1 hg h1 hk
  go_enter Tryd.func37, Tryd.ntmps37
  go_upto_region 1 with fail
  generalize (w.alloc (.cells #[.int .i64 t.f0, .bool t.f1, .slice A2 t.f2.length c2, .slice A3 t.f3.length c3, .slice A4 t.f4.length c4] 26)) = wa at *
  obtain ⟨pp, hpp⟩ : ∃ q, w.heap.size = q := ⟨_, rfl⟩
  rw [hpp] at HP1 hpg hpo ⊢
  have HPP := Aside0.mk hpp
  clear hpp
  obtain ⟨x0, x1, x2, x3, x4⟩ := cells5 HP1.out
  have g0 : wa.cell? ⟨g, 0, none⟩ = some (.slice A xs.length c) := (blk_cell HF1.out.blk 0).trans rfl
  go_upto_region 2 with fail
  have hal := below_alloc (Below.refl wa.heap.size wa) (.cells #[.string p] 9)
  have HA := Aside0.mk (heap_alloc_new wa (.cells #[.string p] 9))
  have HF2 := Aside0.mk (HF1.out.below hal)
  have HP2 := Aside0.mk (blk_alloc HP1.out (.cells #[.string p] 9))
  have HK2 : Aside0 (KeepBut w (wa.alloc (.cells #[.string p] 9)) g (Value.slice A xs.length c).ownBlock) := ⟨HK1.out.trans (KeepBut.of_below hal g _) (.inl rfl)⟩
  have hsz2 := hal.size
  go_wp2_with (at_builtin; refine hold_ ?_)
  refine ⟨?_⟩
  refine Kd.R_append_rows Kd.string (w0 := w0) w0.heap.size rfl (.tmp 14) (.tmp 16) 23 9 (.string ByteArray.empty) 16 rfl Tryd.underlying23 info9 rfl (by decide) (by omega) (.slice A xs.length c) xs [p] _ _ _ (fun _ => True) (fun _ => False) rfl rfl HF2.out.r (row1 HA.out) (fun q c h => by rw [h]; rfl) (fun _ h => h.elim) (fun _ _ => trivial) HF2.out.bel HF2.out.bel.size (by omega) ?_
  intro v1 w4 hr4 hb4 hg4 hat4
  obtain ⟨A', c', rfl⟩ := Kd.R_slice hr4
  have HR4 := Aside0.mk hr4
  have HB4 := Aside0.mk hb4
  have HG4 : Aside0 (w4.heap[g]? = some (.cells #[.slice A xs.length c] 23 (0, 0))) := ⟨(hg4.block _ (blk_lt HF2.out.blk) (Kd.R_ne HF2.out.r HF2.out.blk (by decide))).trans HF2.out.blk⟩
  have HP4 : Aside0 (w4.heap[pp]? = _) := ⟨(hg4.block _ (blk_lt HP2.out) hpo.out).trans HP2.out⟩
  have HK4' : Aside0 (KeepBut w w4 g (Value.slice A xs.length c).ownBlock) := ⟨HK2.out.trans (KeepBut.of_grown hg4 g) (.inl rfl)⟩
  have HAT : Aside0 ((Value.slice A' (xs ++ [p]).length c').ownBlock = (Value.slice A xs.length c).ownBlock ∨ ∃ b, (Value.slice A' (xs ++ [p]).length c').ownBlock = some b ∧ w.heap.size ≤ b) := ⟨hat4.imp id (fun ⟨b, h1, h2⟩ => ⟨b, h1, by have := HSZ.out; omega⟩)⟩
  obtain ⟨nn, hnn⟩ : ∃ q, (xs ++ [p]).length = q := ⟨_, rfl⟩
  have HNN := Aside0.mk hnn
  clear hr4 hb4 hg4 hat4 HF2 HP2 HK2 HA HF1 HP1 HK1 x0 x1 x2 x3 x4 g0 hal hsz2
  have HFE : Aside0 (FL w0 (w4.setCell ⟨g, 0, none⟩ (.slice A' (xs ++ [p]).length c')) g A' c' (xs ++ [p])) := ⟨{ blk := by simpa using blk_set HG4.out 0 (.slice A' (xs ++ [p]).length c'), r := Kd.R_set HR4.out HG4.out (by decide) 0 _, bel := below_set HB4.out HG.out }⟩
  have HKE := Aside0.mk (HK4'.out.set_ 0 (.slice A' (xs ++ [p]).length c'))
  have HPE := Aside0.mk (blk_far HP4.out (p := ⟨g, 0, none⟩) hpg (.slice A' (xs ++ [p]).length c'))
  have g0 : w4.cell? ⟨g, 0, none⟩ = some (.slice A xs.length c) := (blk_cell HG4.out 0).trans rfl
  have gf0 : w4.frozen? ⟨g, 0, none⟩ = false := blk_frozen HG4.out 0
  rw [hnn] at HFE HKE HPE HAT ⊢
  clear hnn
  go_upto_region 3 with fail
  generalize (w4.setCell ⟨g, 0, none⟩ (.slice A' nn c')) = w5 at *
  obtain ⟨x0, x1, x2, x3, x4⟩ := cells5 HPE.out
  clear g0 gf0
  go_wp2_with fail
  go_loopw [6] (fun v wr => v = .int .i64 0 ∧ wr = w5) (fun _ _ => 0)
  case atStart => exact ⟨rfl, rfl⟩
  case round =>
    obtain ⟨rfl, rfl⟩ := hrel
    have hk4 := HK4.out
    go_wp2_with fail
    refine bodyPost_end (v := .tuple #[]) (by simp [results, Tryd.results37, go_sem]) rfl ⟨rfl, A', c', ?_, HKE.out, ?_⟩
    · exact HFE.out
    · have := HAT.out; rw [← HNN.out] at this; exact this
set_option maxRecDepth 20000 in
set_option maxHeartbeats 2000000 in
theorem walk_dir (w0 : World) (N : Nat) (ih : CW w0 N) (t : S26) (A2 : Option Addr) (c2 : Nat) (A3 : Option Addr) (c3 : Nat) (A4 : Option Addr) (c4 : Nat) (p : ByteArray) (w : World) (g : Nat) (A : Option Addr) (c : Nat) (xs : List ByteArray) (h1 : t.f0 ≠ 1) (ht : TR w0 t A2 c2 A3 c3 A4 c4) (hlen : t.f3.length = t.f4.length) (d : Nat) (hch : ∀ u ∈ t.f4, CHK N (d + 1) u) (hd : d ≤ 64) (hps : p.size ≤ 200 * d) (hnm : ∀ s ∈ t.f3, isE s = true) (hg : w0.heap.size ≤ g) (hF : FL w0 w g A c xs) (hl : xs.length + (t.f4.map (cntN N)).sum ≤ 65536) (hl4 : t.f4.length ≤ 65536) :
  Calls Tryd.prog 37 #[TV t A2 c2 A3 c3 A4 c4, .string p, .pointer (some ⟨g, 0, none⟩)] w fun e w' => e = .returned (.tuple #[]) ∧ ∃ A' c', FL w0 w' g A' c' (xs ++ kidsF (filesS N) p t.f3 t.f4) ∧ KeepBut w w' g (Value.slice A xs.length c).ownBlock ∧ ((Value.slice A' (xs ++ kidsF (filesS N) p t.f3 t.f4).length c').ownBlock = (Value.slice A xs.length c).ownBlock ∨ ∃ b, (Value.slice A' (xs ++ kidsF (filesS N) p t.f3 t.f4).length c').ownBlock = some b ∧ w.heap.size ≤ b) := by
  have hb1 := below_alloc (Below.refl w.heap.size w) (.cells #[.int .i64 t.f0, .bool t.f1, .slice A2 t.f2.length c2, .slice A3 t.f3.length c3, .slice A4 t.f4.length c4] 26)
  have HF1 := Aside0.mk (hF.below hb1)
  have HP1 := Aside0.mk (heap_alloc_new w (.cells #[.int .i64 t.f0, .bool t.f1, .slice A2 t.f2.length c2, .slice A3 t.f3.length c3, .slice A4 t.f4.length c4] 26))
  obtain ⟨own, hown⟩ : ∃ q, (Value.slice A xs.length c).ownBlock = q := ⟨_, rfl⟩
  have HOWN := Aside0.mk hown
  rw [hown]
  have HK1 : Aside0 (KeepBut w (w.alloc (.cells #[.int .i64 t.f0, .bool t.f1, .slice A2 t.f2.length c2, .slice A3 t.f3.length c3, .slice A4 t.f4.length c4] 26)) g own) := ⟨KeepBut.of_below hb1 g _⟩
  have hpg : w.heap.size ≠ g := by have := blk_lt hF.blk; omega
  have HG := Aside0.mk hg
  have IH := Aside0.mk ih
  have HT := Aside0.mk ht
  have HLEN := Aside0.mk hlen
  have HCH := Aside0.mk hch
  have HNM := Aside0.mk hnm
  have hps2 : p.size ≤ 12800 := by omega
  have HL := Aside0.mk hl
  have hf0 : (t.f0 == 1) = false := by simp [h1]
  clear hF hb1 hg h1 ih ht hlen hch hnm hl hown
  go_enter Tryd.func37, Tryd.ntmps37
  go_upto_region 1 with fail
  generalize (w.alloc (.cells #[.int .i64 t.f0, .bool t.f1, .slice A2 t.f2.length c2, .slice A3 t.f3.length c3, .slice A4 t.f4.length c4] 26)) = wa at *
  obtain ⟨pp, hpp⟩ : ∃ q, w.heap.size = q := ⟨_, rfl⟩
  rw [hpp] at HP1 hpg ⊢
  have HPP := Aside0.mk hpp
  clear hpp
  obtain ⟨x0, x1, x2, x3, x4⟩ := cells5 HP1.out
  go_wp2_with fail
  go_loopw [6] (fun v wr => ∃ (k : Nat) (A' : Option Addr) (c' : Nat) (ys : List ByteArray), v = .int .i64 (k : Int) ∧ k ≤ t.f4.length ∧ Aside0 (xs ++ kidsF (filesS N) p t.f3 t.f4 = ys ++ kidsF (filesS N) p (t.f3.drop k) (t.f4.drop k)) ∧ Aside0 (ys.length + ((t.f4.drop k).map (cntN N)).sum ≤ 65536) ∧ Aside0 (FL w0 wr g A' c' ys) ∧ Aside0 (wr.heap[pp]? = some (.cells #[.int .i64 t.f0, .bool t.f1, .slice A2 t.f2.length c2, .slice A3 t.f3.length c3, .slice A4 t.f4.length c4] 26)) ∧ Aside0 (KeepBut w wr g own) ∧ Aside0 ((Value.slice A' ys.length c').ownBlock = own ∨ ∃ b, (Value.slice A' ys.length c').ownBlock = some b ∧ w.heap.size ≤ b)) (fun v _ => t.f4.length - (intOf v).toNat)
  case atStart => exact ⟨0, A, c, xs, rfl, Nat.zero_le _, ⟨rfl⟩, ⟨HL.out⟩, HF1, HP1, HK1, ⟨.inl HOWN.out⟩⟩
  case round =>
    clear HF1 HP1 HK1 x0 x1 x2 x3 x4 HL
    obtain ⟨k, A', c', ys, rfl, hk, HE, HL, HF, HP, HK, HAT⟩ := hrel
    by_cases hlt : k < t.f4.length
    · obtain ⟨ad, B2, d2, B3, d3, B4, d4, hA, e0, e1, e2, e3, e4, r1, r2, r3, r4, r5, r6⟩ := at_T26 HT.out.2.2.2.2.2 (k : Int) (by omega) (by omega)
      obtain ⟨ad3, hA3, hcn⟩ := Kd.at_string HT.out.2.2.2.1 (k : Int) (by omega) (by have := HLEN.out; omega)
      obtain ⟨u, hu⟩ : ∃ x, rd_T26 t.f4 (k : Int) = x := ⟨_, rfl⟩
      have hue : t.f4[k] = u := by rw [← hu, rdT hlt]
      have HLT3 : Aside0 (k < t.f3.length) := ⟨by have := HLEN.out; omega⟩
      obtain ⟨nm, hnm⟩ : ∃ x, rdOf ByteArray.empty t.f3 (k : Int) = x := ⟨_, rfl⟩
      have hne : t.f3[k]'HLT3.out = nm := by rw [← hnm, rdB HLT3.out]
      rw [hnm] at hcn
      rw [hu] at e0 e1 e2 e3 e4 r1 r2 r3 r4 r5 r6
      rw [Int.toNat_natCast] at e0 e1 e2 e3 e4 hcn
      have hns : nm.size ≤ 100 := isE_100 (HNM.out nm (by rw [← hne]; exact List.getElem_mem HLT3.out))
      have HUS : Aside0 ((und p nm).size ≤ 200 * (d + 1)) := ⟨und_size hns hps⟩
      have HCU : Aside0 (CHK N (d + 1) u) := ⟨hue ▸ HCH.out _ (List.getElem_mem hlt)⟩
      have HTR : Aside0 (TR w0 u B2 d2 B3 d3 B4 d4) := ⟨⟨r1, r2, r3, r4, r5, r6⟩⟩
      have f0 := pw_cell_below HF.out.bel e0
      have f1 := pw_cell_below HF.out.bel e1
      have f2 := pw_cell_below HF.out.bel e2
      have f3 := pw_cell_below HF.out.bel e3
      have f4 := pw_cell_below HF.out.bel e4
      have hcn1 := pw_cell_below HF.out.bel hcn
      have HE2 : Aside0 (xs ++ kidsF (filesS N) p t.f3 t.f4 = (ys ++ filesS N u (und p nm)) ++ kidsF (filesS N) p (t.f3.drop (k + 1)) (t.f4.drop (k + 1))) := ⟨by rw [HE.out, List.drop_eq_getElem_cons hlt, List.drop_eq_getElem_cons HLT3.out, hue, hne, kidsF, List.append_assoc]⟩
      have HL2 : Aside0 (ys.length + cntN N u + ((t.f4.drop (k + 1)).map (cntN N)).sum ≤ 65536) := ⟨by have := HL.out; rw [List.drop_eq_getElem_cons hlt, hue, List.map_cons, List.sum_cons] at this; omega⟩
      subst hA
      subst hA3
      clear hue hne hu hnm e0 e1 e2 e3 e4 r1 r2 r3 r4 r5 r6 hcn HE HL
      have hk3 : (k : Int) < (t.f3.length : Int) := by have := HLT3.out; omega
      have HFb := HF
      have HPb := HP
      have HKb := HK
      obtain ⟨x0, x1, x2, x3, x4⟩ := cells5 HPb.out
      clear HF HP HK
      have HCALL := Aside0.mk (IH.out u B2 d2 B3 d3 B4 d4 (und p nm) wr g A' c' ys (d + 1) HTR.out HCU.out HUS.out HG.out HFb.out (by have := HL2.out; omega))
      have HPN : Aside0 (some pp ≠ (Value.slice A' ys.length c').ownBlock) := ⟨Kd.R_ne HFb.out.r HPb.out (by decide)⟩
      cases hp : (p.toList == []) with
      | true =>
        have hu : und p nm = nm := by unfold und; rw [if_pos hp]
        rw [hu] at HCALL HE2
        clear hu
        go_wp2_with fail
        refine HCALL.out.mono ?_
        rintro e_ w7 ⟨rfl, A7, c7, hf7, hk7, hat7⟩
        have HF7 := Aside0.mk hf7
        have HP7 : Aside0 (w7.heap[pp]? = some (.cells #[.int .i64 t.f0, .bool t.f1, .slice A2 t.f2.length c2, .slice (some ad3) t.f3.length c3, .slice (some ad) t.f4.length c4] 26)) := ⟨(hk7.2 _ (blk_lt HPb.out) hpg HPN.out).trans HPb.out⟩
        have HK7 : Aside0 (KeepBut w w7 g own) := ⟨HKb.out.trans hk7 HAT.out⟩
        have HAT7 : Aside0 ((Value.slice A7 (ys ++ filesS N u (nm)).length c7).ownBlock = own ∨ ∃ b, (Value.slice A7 (ys ++ filesS N u (nm)).length c7).ownBlock = some b ∧ w.heap.size ≤ b) := ⟨by
          rcases hat7 with h9 | ⟨b, h9, h8⟩
          · rw [h9]; exact HAT.out
          · exact .inr ⟨b, h9, Nat.le_trans HKb.out.1 h8⟩⟩
        have HL7 : Aside0 ((ys ++ filesS N u (nm)).length + ((t.f4.drop (k + 1)).map (cntN N)).sum ≤ 65536) := ⟨by have h9 := HL2.out; have h8 := files_len N u (nm); rw [List.length_append]; omega⟩
        clear hf7 hk7 hat7 HCALL x0 x1 x2 x3 x4 f0 f1 f2 f3 f4 hcn1 HKb HPb HFb HAT HL2
        go_wp2_with fail
        exact ⟨⟨k + 1, A7, c7, _, by go_num, by omega, HE2, HL7, HF7, HP7, HK7, HAT7⟩, by simp [intOf]; omega⟩
      | false =>
        have hu : und p nm = (p ++ ⟨#[47]⟩) ++ nm := by unfold und; rw [if_neg (by rw [hp]; simp)]
        rw [hu] at HCALL HE2
        clear hu
        go_wp2_with fail
        refine HCALL.out.mono ?_
        rintro e_ w7 ⟨rfl, A7, c7, hf7, hk7, hat7⟩
        have HF7 := Aside0.mk hf7
        have HP7 : Aside0 (w7.heap[pp]? = some (.cells #[.int .i64 t.f0, .bool t.f1, .slice A2 t.f2.length c2, .slice (some ad3) t.f3.length c3, .slice (some ad) t.f4.length c4] 26)) := ⟨(hk7.2 _ (blk_lt HPb.out) hpg HPN.out).trans HPb.out⟩
        have HK7 : Aside0 (KeepBut w w7 g own) := ⟨HKb.out.trans hk7 HAT.out⟩
        have HAT7 : Aside0 ((Value.slice A7 (ys ++ filesS N u (p ++ ⟨#[47]⟩ ++ nm)).length c7).ownBlock = own ∨ ∃ b, (Value.slice A7 (ys ++ filesS N u (p ++ ⟨#[47]⟩ ++ nm)).length c7).ownBlock = some b ∧ w.heap.size ≤ b) := ⟨by
          rcases hat7 with h9 | ⟨b, h9, h8⟩
          · rw [h9]; exact HAT.out
          · exact .inr ⟨b, h9, Nat.le_trans HKb.out.1 h8⟩⟩
        have HL7 : Aside0 ((ys ++ filesS N u ((p ++ ⟨#[47]⟩) ++ nm)).length + ((t.f4.drop (k + 1)).map (cntN N)).sum ≤ 65536) := ⟨by have h9 := HL2.out; have h8 := files_len N u ((p ++ ⟨#[47]⟩) ++ nm); rw [List.length_append]; omega⟩
        clear hf7 hk7 hat7 HCALL x0 x1 x2 x3 x4 f0 f1 f2 f3 f4 hcn1 HKb HPb HFb HAT HL2
        go_wp2_with fail
        exact ⟨⟨k + 1, A7, c7, _, by go_num, by omega, HE2, HL7, HF7, HP7, HK7, HAT7⟩, by simp [intOf]; omega⟩
    · obtain ⟨x0, x1, x2, x3, x4⟩ := cells5 HP.out
      have hkk : k = t.f4.length := by omega
      have HE3 : Aside0 (xs ++ kidsF (filesS N) p t.f3 t.f4 = ys) := ⟨by rw [HE.out, hkk, List.drop_length, kidsF, List.append_nil]; exact fun _ _ _ _ _ h => by cases h⟩
      go_wp2_with fail
      refine bodyPost_end (v := .tuple #[]) (by simp [results, Tryd.results37, go_sem]) rfl ⟨rfl, A', c', by rw [HE3.out]; exact HF.out, HK.out, by rw [HE3.out]; exact HAT.out⟩
theorem walk_any (w0 : World) : ∀ N, CW w0 N := by
  intro N
  induction N with
  | zero =>
    intro t A2 c2 A3 c3 A4 c4 p w g A c xs d ht hc
    exact hc.1.elim
  | succ N ih =>
    intro t A2 c2 A3 c3 A4 c4 p w g A c xs d ht hc hps hg hF hl
    obtain ⟨k1, k2, k3, k4, k5⟩ := hc.node
    rw [cntN] at hl
    rw [filesS]
    by_cases h1 : t.f0 = 1
    · rw [if_pos h1]
      exact walk_leaf w0 N t A2 c2 A3 c3 A4 c4 p w g A c xs h1 (formE_file k1 h1).2 hg hF (by omega)
    · rw [if_neg h1]
      exact walk_dir w0 N ih t A2 c2 A3 c3 A4 c4 p w g A c xs h1 ht k3 d k5 k4 hps (names_ent k2) hg hF (by omega) (by have := cnt_len N t.f4 hc.1.2.2.2.2.2; omega)
end Go.Proofs.YtfnofjcdaghniaaDoor.Tree
/- the reference's Files, walked. Own work; printed by gen_rg.py. -/
namespace Go.Proofs.YtfnofjcdaghniaaDoor.Tree
set_option linter.unusedVariables false
set_option linter.unusedSimpArgs false
open Go.RowKit Go.Proofs.YtfnofjcdaghniaaDoor.PL Go.Proofs.YtfnofjcdaghniaaDoor.Mt Go.Proofs.YtfnofjcdaghniaaDoorW.PrintWords Go.Proofs.YtfnofjcdaghniaaDoorW.PrintLast Go.Proofs.YtfnofjcdaghniaaDoorW.PrintMore
/-- a row of texts of one's own, by its header's box -/
structure FS (w0 wr : World) (g : Nat) (A : Option Addr) (c n : Nat) (ys : List ByteArray) : Prop where
  blk : wr.heap[g]? = some (.cells #[.slice A n c] 23 (0, 0))
  r : Kd.string.R 9 wr w0.heap.size (fun _ => True) (.slice A n c) ys
  bel : Below w0.heap.size w0 wr
theorem FS.len {w0 wr : World} {g : Nat} {A : Option Addr} {c n : Nat} {ys : List ByteArray} (h : FS w0 wr g A c n ys) : ys.length = n := (Kd.R_reads' h.r).1.symm
theorem FS.below {w0 wr w2 : World} {g : Nat} {A : Option Addr} {c n : Nat} {ys : List ByteArray} (h : FS w0 wr g A c n ys) (hb : Below wr.heap.size wr w2) : FS w0 w2 g A c n ys :=
  ⟨(hb.block _ (blk_lt h.blk)).trans h.blk, Kd.R_below h.r hb, below_then h.bel h.bel.size hb⟩
theorem FS.put {w0 wr : World} {g b c n : Nat} {ys : List ByteArray} (h : FS w0 wr g (some ⟨b, 0, none⟩) c n ys) (i : Nat) (x : ByteArray) : FS w0 (wr.setCell ⟨b, i, none⟩ (.string x)) g (some ⟨b, 0, none⟩) c n (ys.set i x) := by
  have hne : g ≠ b := fun e => Kd.R_ne h.r h.blk (by decide) (by rw [e]; rfl)
  exact ⟨blk_far h.blk hne _, Kd.R_putn h.r (i : Int) x, below_set h.bel (Kd.R_base h.r b rfl)⟩
theorem FS.cell {w0 wr : World} {g b c n : Nat} {ys : List ByteArray} (h : FS w0 wr g (some ⟨b, 0, none⟩) c n ys) {i : Nat} (hi : i < n) : wr.cell? ⟨b, i, none⟩ = some (.string (at_ ys i)) ∧ wr.frozen? ⟨b, i, none⟩ = false := by
  have h1 := Kd.R_celln ByteArray.empty h.r (i : Int) (by omega) (by omega)
  rw [Int.toNat_natCast] at h1
  refine ⟨h1.1.trans ?_, h1.2⟩
  rw [rdOf_nat]
set_option maxRecDepth 20000 in
set_option maxHeartbeats 4000000 in
theorem RFiles_any (N : Nat) (t : S26) (A2 : Option Addr) (c2 : Nat) (A3 : Option Addr) (c3 : Nat) (A4 : Option Addr) (c4 : Nat) (w : World) (ht : TR w t A2 c2 A3 c3 A4 c4) (hG : GT N t) :
    Calls Tryd.prog 18 #[TV t A2 c2 A3 c3 A4 c4] w fun e w' => ∃ A c, e = .returned (.slice A (FilesS N t).length c) ∧ (FilesS N t).length ≤ c ∧ Kd.string.C w' A (FilesS N t).length (FilesS N t) ∧ Below w.heap.size w w' := by
  have HT := Aside0.mk ht
  have HG := Aside0.mk hG
  clear ht hG
  have HX := Aside0.mk (heap_alloc_new w (.cells #[.int .i64 t.f0, .bool t.f1, .slice A2 t.f2.length c2, .slice A3 t.f3.length c3, .slice A4 t.f4.length c4] 26))
  have HB := Aside0.mk (below_alloc (Below.refl w.heap.size w) (.cells #[.int .i64 t.f0, .bool t.f1, .slice A2 t.f2.length c2, .slice A3 t.f3.length c3, .slice A4 t.f4.length c4] 26))
  go_enter Tryd.func18, Tryd.ntmps18
  go_upto_region 1 with fail
  generalize w.alloc (.cells #[.int .i64 t.f0, .bool t.f1, .slice A2 t.f2.length c2, .slice A3 t.f3.length c3, .slice A4 t.f4.length c4] 26) = w2 at *
  obtain ⟨a, ha⟩ : ∃ q, w.heap.size = q := ⟨_, rfl⟩
  rw [ha] at HX ⊢
  have HAA := Aside0.mk ha
  clear ha
  obtain ⟨x0, x1, x2, x3, x4⟩ := cells5 HX.out
  go_wp2_with fail
  clear x0 x1 x2 x3 x4
  refine (RCheck_any N t A2 c2 A3 c3 A4 c4 w2 (HT.out.below HB.out) HG.out).mono ?_
  rintro e w3 ⟨rfl, hb⟩
  have HX := Aside0.mk ((hb.block _ (blk_lt HX.out)).trans HX.out)
  have HB := Aside0.mk (below_then HB.out HB.out.size hb)
  clear hb
  obtain ⟨k, hk⟩ : ∃ q, (chk N t 1 0).1 = q := ⟨_, rfl⟩
  rw [hk]
  have HK := Aside0.mk hk
  clear hk
  by_cases hz : k = 0
  rotate_left
  · skip
    have HE : Aside0 (FilesS N t = []) := ⟨by unfold FilesS; rw [if_pos (by rw [HK.out]; exact hz)]⟩
    have hkb : (k != 0) = true := by simpa using hz
    clear hz
    go_wp2_with fail
    refine bodyPost_ret (v := .slice none 0 0) (by simp [results, Tryd.results18, go_sem]) rfl ?_
    rw [HE.out]
    exact ⟨none, 0, rfl, Nat.le_refl _, Kd.C_nil _ _, HAA.out ▸ HB.out⟩
  subst hz
  have HE : Aside0 (FilesS N t = sortS (filesS N t ⟨#[]⟩)) := ⟨by unfold FilesS; rw [if_neg (by rw [HK.out]; simp)]⟩
  have hz : ((0 : Int) != 0) = false := rfl
  go_upto_region 4 with fail
  have hal := below_alloc (Below.refl w3.heap.size w3) (.cells #[.slice none 0 0] 23)
  have HX := Aside0.mk (blk_alloc HX.out (.cells #[.slice none 0 0] 23))
  have HF : Aside0 (FL w3 (w3.alloc (.cells #[.slice none 0 0] 23)) w3.heap.size none 0 []) := ⟨⟨heap_alloc_new w3 (.cells #[.slice none 0 0] 23), Kd.R_nil _ _ _ _ _, hal⟩⟩
  have HBA := HB
  have HB := Aside0.mk (below_then HB.out HB.out.size hal)
  clear hal
  obtain ⟨g, hg⟩ : ∃ q, w3.heap.size = q := ⟨_, rfl⟩
  rw [hg] at HF ⊢
  have HLO : Aside0 (w3.heap.size ≤ g) := ⟨Nat.le_of_eq hg⟩
  clear hg
  generalize (w3.alloc (.cells #[.slice none 0 0] 23)) = w4 at *
  obtain ⟨x0, x1, x2, x3, x4⟩ := cells5 HX.out
  go_wp2_with fail
  clear x0 x1 x2 x3 x4
  have hs := filesS_le HG.out HK.out
  refine (walk_any w3 N t A2 c2 A3 c3 A4 c4 ⟨#[]⟩ w4 g none 0 [] 1 (HT.out.below HBA.out) ⟨HG.out, 0, by omega, HK.out⟩ (by show 0 ≤ _; omega) HLO.out HF.out (by show 0 + _ ≤ _; omega)).mono ?_
  obtain ⟨xs, hxs⟩ : ∃ q, filesS N t ⟨#[]⟩ = q := ⟨_, rfl⟩
  rw [hxs] at hs HE
  rw [hxs, List.nil_append]
  rintro e_ w5 ⟨rfl, B, c, hf, -, -⟩
  obtain ⟨n, hn⟩ : ∃ q, xs.length = q := ⟨_, rfl⟩
  have HFS : Aside0 (FS w3 w5 g B c n xs) := ⟨by subst hn; exact ⟨hf.blk, hf.r, hf.bel⟩⟩
  have hnl : n ≤ 65536 := by omega
  clear hf hs hxs hn HX HB HF
  go_wp2_with fail
  go_loopw [4] (fun v wr => ∃ (i : Nat) (ys : List ByteArray), v = .int .i64 (i : Int) ∧ 1 ≤ i ∧ (i ≤ n ∨ i = 1) ∧ Aside0 (ys.Perm xs) ∧ Aside0 (SrtP ys i) ∧ Aside0 (FS w3 wr g B c n ys)) (fun v _ => n + 1 - (intOf v).toNat)
  case atStart => exact ⟨1, xs, rfl, Nat.le_refl _, .inr rfl, ⟨List.Perm.refl _⟩, ⟨fun a b hab hb => absurd hb (by omega)⟩, HFS⟩
  case round =>
    clear HFS
    obtain ⟨i, ys, rfl, hi1, hi2, HP, HS, HF⟩ := hrel
    have hc0 : wr.cell? ⟨g, 0, none⟩ = some (.slice B n c) := (blk_cell HF.out.blk 0).trans rfl
    by_cases hlt : i < n
    · skip
      have hlt' : (i : Int) < (n : Int) := by omega
      have HFL : Aside0 (∃ b, B = some ⟨b, 0, none⟩) := ⟨by
        obtain ⟨b, cap, he, -⟩ := Kd.R_form HF.out.r (by rw [HF.out.len]; omega)
        exact ⟨b, (Value.slice.inj he).1⟩⟩
      obtain ⟨b, rfl⟩ := HFL.out
      clear HFL
      go_wp2_with fail
      clear hc0
      go_loopw [5] (fun v wr => ∃ (k : Nat) (zs : List ByteArray), v = .int .i64 (k : Int) ∧ k ≤ i ∧ Aside0 (zs.Perm xs) ∧ Aside0 (InsP zs i k) ∧ Aside0 (FS w3 wr g (some ⟨b, 0, none⟩) c n zs)) (fun v _ => (intOf v).toNat)
      case atStart => exact ⟨i, ys, rfl, Nat.le_refl _, HP, ⟨InsP.of HS.out⟩, HF⟩
      case round =>
        clear HP HS HF ys
        obtain ⟨k, zs, rfl, hk, HP, HS, HF⟩ := hrel
        by_cases hk0 : 0 < k
        · skip
          have hk0' : (0 : Int) < (k : Int) := by omega
          have hkn : (k : Int) < (n : Int) := by omega
          obtain ⟨j, hj⟩ : ∃ j, k = j + 1 := ⟨k - 1, by omega⟩
          have hjn : (j : Int) < (n : Int) := by omega
          obtain ⟨x1, hx1⟩ : ∃ q, at_ zs k = q := ⟨_, rfl⟩
          obtain ⟨x2, hx2⟩ : ∃ q, at_ zs (k - 1) = q := ⟨_, rfl⟩
          have HX12 := Aside0.mk (And.intro hx1 hx2)
          have hc0 : wr.cell? ⟨g, 0, none⟩ = some (.slice (some ⟨b, 0, none⟩) n c) := (blk_cell HF.out.blk 0).trans rfl
          obtain ⟨hck, hfk⟩ := HF.out.cell (show k < n by omega)
          obtain ⟨hcj, hfj⟩ := HF.out.cell (show k - 1 < n by omega)
          rw [hx1] at hck
          rw [hx2] at hcj
          clear hx1 hx2
          have hkj : k - 1 = j := by omega
          rw [hkj] at hcj hfj
          have hvj : (k : Int) - 1 = (j : Int) := by omega
          have HJ := Aside0.mk hj
          clear hj hkj
          cases hlt9 : Op.bytesLess x1.toList x2.toList with
          | false =>
            have HSR : Aside0 (SrtP zs (i + 1)) := ⟨InsP.stop HS.out hk0 hk (by rw [HX12.out.1, HX12.out.2]; exact hlt9)⟩
            go_upto_region 9 with fail
            go_quiet (fail)
            clear hc0 hck hfk hcj hfj
            have HF := Aside0.mk (HF.out.below (pw_below_drewN (Below.refl _ wr) nq))
            generalize (wr.drewN nq) = wr at *
            go_wp2_with fail
            exact ⟨⟨i + 1, zs, by go_num, by omega, .inl (by omega), HP, HSR, HF⟩, by simp [intOf]; omega⟩
          | true =>
            go_upto_region 9 with fail
            go_quiet (fail)
            clear hc0 hck hfk hcj hfj
            have HF := Aside0.mk (HF.out.below (pw_below_drewN (Below.refl _ wr) nq))
            generalize (wr.drewN nq) = wr at *
            have hc0 : wr.cell? ⟨g, 0, none⟩ = some (.slice (some ⟨b, 0, none⟩) n c) := (blk_cell HF.out.blk 0).trans rfl
            obtain ⟨hck, hfk⟩ := HF.out.cell (show k < n by omega)
            obtain ⟨hcj, hfj⟩ := HF.out.cell (show j < n by omega)
            have hkj : k - 1 = j := by have := HJ.out; omega
            rw [HX12.out.1] at hck
            have e2 : at_ zs j = x2 := by rw [← hkj]; exact HX12.out.2
            rw [e2] at hcj
            have HE2 := Aside0.mk e2
            have HKJ := Aside0.mk hkj
            clear e2 hkj
            have hwj : IntKind.i64.wrap (j : Int) = (j : Int) := by have h1 := hjn; have h2 := hnl; simp [IntKind.wrap, IntKind.bits, IntKind.signed]; omega
            go_upto_region 12 with fail
            go_still_tail 8, (by kernel_rfl)
            change wpList _ _ _ _ _ wr.drew
            have HF := Aside0.mk (HF.out.below (below_drew (Below.refl _ wr)))
            clear hc0 hck hfk hcj hfj
            generalize wr.drew = w6 at *
            have hck := (HF.out.cell (show k < n by omega)).1
            have hfk := (HF.out.cell (show k < n by omega)).2
            have HF7 := Aside0.mk (HF.out.put k x2)
            go_upto_region 13 with fail
            clear hck hfk HF
            generalize (w6.setCell ⟨b, k, none⟩ (.string x2)) = w7 at *
            have hc0 : w7.cell? ⟨g, 0, none⟩ = some (.slice (some ⟨b, 0, none⟩) n c) := (blk_cell HF7.out.blk 0).trans rfl
            have hcj := (HF7.out.cell (show j < n by omega)).1
            have hfj := (HF7.out.cell (show j < n by omega)).2
            have HF8 := Aside0.mk (HF7.out.put j x1)
            go_wp2_with fail
            clear hc0 hcj hfj HF7
            have hzl : k < zs.length := by
              have h9 := HF8.out.len
              rw [List.length_set, List.length_set] at h9
              omega
            refine ⟨⟨j, (zs.set k x2).set j x1, rfl, by omega, ⟨?_⟩, ⟨?_⟩, HF8⟩, by simp [intOf]; have := HJ.out; omega⟩
            · have h9 := swap_perm hk0 hzl
              rw [HX12.out.1, HX12.out.2, HKJ.out] at h9
              exact h9.trans HP.out
            · have h9 := InsP.swap HS.out hk0 hk (by have h8 := HF8.out.len; rw [List.length_set, List.length_set] at h8; omega) (by rw [HX12.out.1, HX12.out.2]; exact hlt9)
              rw [HX12.out.1, HX12.out.2, HKJ.out] at h9
              exact h9
        · skip
          have hk0 : k = 0 := by omega
          subst hk0
          have HSR : Aside0 (SrtP zs (i + 1)) := ⟨InsP.zero HS.out⟩
          have hd : decide ((0 : Int) < 0) = false := rfl
          go_upto_region 9 with fail
          go_quiet (fail)
          have HF := Aside0.mk (HF.out.below (pw_below_drewN (Below.refl _ wr) nq))
          generalize (wr.drewN nq) = wr at *
          go_wp2_with fail
          exact ⟨⟨i + 1, zs, by go_num, by omega, .inl (by omega), HP, HSR, HF⟩, by simp [intOf]; omega⟩
    · skip
      have hlt' : ¬ (i : Int) < (n : Int) := by omega
      have HEQ : Aside0 (ys = sortS xs) := ⟨by
        refine srt_sort (fun a b hab hb => ?_) HP.out
        rw [HF.out.len] at hb
        exact HS.out a b hab (by omega)⟩
      go_wp2_with fail
      refine bodyPost_ret (v := .slice B n c) (by simp [results, Tryd.results18, go_sem]) rfl ?_
      rw [HE.out, ← HEQ.out]
      obtain ⟨e1, e2, e3⟩ := Kd.R_reads' HF.out.r
      subst e1
      exact ⟨B, c, rfl, e2, e3, below_then HBA.out HBA.out.size HF.out.bel⟩
end Go.Proofs.YtfnofjcdaghniaaDoor.Tree
