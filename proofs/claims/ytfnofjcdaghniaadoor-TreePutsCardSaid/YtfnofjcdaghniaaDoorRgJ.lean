/- tree.At, walked. Own work; printed by gen_at.py. -/
import Derived.Test.YtfnofjcdaghniaaDoorKnJ
import Derived.Test.YtfnofjcdaghniaaDoorMt15
import Derived.Test.YtfnofjcdaghniaaDoorRfQ
import Derived.Laws.Cover1
namespace Go.Proofs.YtfnofjcdaghniaaDoor.Tree
set_option linter.unusedVariables false
set_option linter.unusedSimpArgs false
open Go.RowKit Go.Proofs.YtfnofjcdaghniaaDoor.PL Go.Proofs.YtfnofjcdaghniaaDoor.Mt Go.Proofs.YtfnofjcdaghniaaDoorW.PrintWords Go.Proofs.YtfnofjcdaghniaaDoorW.PrintLast Go.Proofs.YtfnofjcdaghniaaDoorW.PrintMore
/-- At behind the names, as a plain function -/
def atS : List ByteArray → S26 → S26 × Int
  | [], t => (t, 0)
  | n :: l, t => if hasS t.f3 n = true then atS l (t.f4.getD (posS t.f3 n) dir0) else (z0, 7)
noncomputable def AtS (N : Nat) (t : S26) (p : ByteArray) : S26 × Int :=
  if (chk N t 1 0).1 ≠ 0 then (z0, (chk N t 1 0).1) else if (partsS p).all isE = false then (z0, 9) else atS (partsS p) t
/-- two boxes -/
structure AW (w wr : World) (a c : Nat) (oa oc : Array Value) : Prop where
  ba : wr.heap[a]? = some (.cells oa 26 (0, 0))
  bc : wr.heap[c]? = some (.cells oc 26 (0, 0))
  ne : a ≠ c
  lo : w.heap.size ≤ a ∧ w.heap.size ≤ c
  bel : Below w.heap.size w wr
theorem AW.step {w wr w2 : World} {a c : Nat} {oa oc : Array Value} (h : AW w wr a c oa oc) (hb : Below wr.heap.size wr w2) : AW w w2 a c oa oc :=
  ⟨(hb.block _ (blk_lt h.ba)).trans h.ba, (hb.block _ (blk_lt h.bc)).trans h.bc, h.ne, h.lo, below_then h.bel h.bel.size hb⟩
theorem AW.setc {w wr : World} {a c : Nat} {oa : Array Value} {a0 b0 c0 d0 e0 : Value} (h : AW w wr a c oa #[a0, b0, c0, d0, e0]) (x0 x1 x2 x3 x4 : Value) :
    AW w (((((wr.setCell ⟨c, 0, none⟩ x0).setCell ⟨c, 1, none⟩ x1).setCell ⟨c, 2, none⟩ x2).setCell ⟨c, 3, none⟩ x3).setCell ⟨c, 4, none⟩ x4) a c oa #[x0, x1, x2, x3, x4] :=
  ⟨(box_far h.ne _ _ _ _ _).trans h.ba, box_same h.bc _ _ _ _ _, h.ne, h.lo, box_below h.bel h.lo.2 _ _ _ _ _⟩
theorem AW.seta {w wr : World} {a c : Nat} {oc : Array Value} {a0 b0 c0 d0 e0 : Value} (h : AW w wr a c #[a0, b0, c0, d0, e0] oc) (x0 x1 x2 x3 x4 : Value) :
    AW w (((((wr.setCell ⟨a, 0, none⟩ x0).setCell ⟨a, 1, none⟩ x1).setCell ⟨a, 2, none⟩ x2).setCell ⟨a, 3, none⟩ x3).setCell ⟨a, 4, none⟩ x4) a c #[x0, x1, x2, x3, x4] oc :=
  ⟨box_same h.ba _ _ _ _ _, (box_far h.ne.symm _ _ _ _ _).trans h.bc, h.ne, h.lo, box_below h.bel h.lo.1 _ _ _ _ _⟩
theorem AW.enter (w : World) (t : S26) (A2 : Option Addr) (c2 : Nat) (A3 : Option Addr) (c3 : Nat) (A4 : Option Addr) (c4 : Nat) :
    AW w ((w.alloc (bx t A2 c2 A3 c3 A4 c4)).alloc (.cells #[.int .i64 0, .bool false, .slice none 0 0, .slice none 0 0, .slice none 0 0] 26)) w.heap.size (w.heap.size + 1) #[.int .i64 t.f0, .bool t.f1, .slice A2 t.f2.length c2, .slice A3 t.f3.length c3, .slice A4 t.f4.length c4] #[.int .i64 0, .bool false, .slice none 0 0, .slice none 0 0, .slice none 0 0] := by
  obtain ⟨w1, hw1⟩ : ∃ q, w.alloc (bx t A2 c2 A3 c3 A4 c4) = q := ⟨_, rfl⟩
  have h1 : Below w.heap.size w w1 := hw1 ▸ below_alloc (Below.refl _ w) _
  have z1 : w1.heap.size = w.heap.size + 1 := by rw [← hw1]; simp
  have k1 : w1.heap[w.heap.size]? = some (bx t A2 c2 A3 c3 A4 c4) := hw1 ▸ heap_alloc_new w _
  have k2 := heap_alloc_new w1 (.cells #[.int .i64 0, .bool false, .slice none 0 0, .slice none 0 0, .slice none 0 0] 26)
  rw [z1] at k2
  rw [hw1]
  exact ⟨blk_alloc k1 _, k2, by omega, by omega, below_alloc h1 _⟩
theorem OktS {N : Nat} {t : S26} (h : Okt N t) : Srt t.f3 ∧ t.f3.length ≤ 1000000 := by
  cases N with
  | zero => exact h.elim
  | succ N => exact ⟨h.2.1, by have := h.2.2.1; omega⟩
theorem OktL {N : Nat} {t : S26} (h : Okt N t) : t.f3.length = t.f4.length := by
  cases N with
  | zero => exact h.elim
  | succ N => exact h.1
theorem Okt_mono : ∀ {N M : Nat} {t : S26}, Okt N t → N ≤ M → Okt M t := by
  intro N
  induction N with
  | zero => intro M t h; exact h.elim
  | succ N ih =>
    intro M t h hm
    cases M with
    | zero => omega
    | succ M => exact ⟨h.1, h.2.1, h.2.2.1, fun a ha => ih (h.2.2.2 a ha) (by omega)⟩
theorem Okt_kid {N : Nat} {t u : S26} (h : Okt N t) (hu : u ∈ t.f4) : Okt N u := by
  cases N with
  | zero => exact h.elim
  | succ N => exact Okt_mono (h.2.2.2 u hu) (by omega)
theorem GT_kid {N : Nat} {t u : S26} (h : GT N t) (hu : u ∈ t.f4) : GT N u := by
  cases N with
  | zero => exact h.elim
  | succ N => exact GT_mono (h.2.2.2.2.2 u hu) (by omega)
theorem C_set {w : World} {A : Option Addr} {l : List ByteArray} {p : Addr} {u : Value} (v : Value) (h : Kd.string.C w A l.length l) (hp : w.cell? p = some u) (hu : ∀ s, u ≠ .string s) : Kd.string.C (w.setCell p v) A l.length l := by
  obtain ⟨h1, h2, h3⟩ := h
  refine ⟨h1, h2, fun h0 => ?_⟩
  obtain ⟨ad, e, hc⟩ := h3 h0
  refine ⟨ad, e, fun j q hq => ?_⟩
  obtain ⟨c, g1, g2, g3⟩ := hc j q hq
  refine ⟨c, g1, g2, fun i x hx => ?_⟩
  have g4 := g3 i x hx
  rw [World.cell?_setCell_other _ _ _ _ (fun e => ?_)]
  · exact g4
  · rw [← e, hp] at g4
    have hcq : c = [.string q] := g2
    rw [hcq] at hx
    cases i with
    | zero => simp at hx; subst hx; exact hu q (Option.some.inj g4)
    | succ i => simp at hx
theorem CS_box {w : World} {A : Option Addr} {l : List ByteArray} {a : Nat} {k : Int} {b : Bool} {P2 : Option Addr} {n2 d2 : Nat} {P3 : Option Addr} {n3 d3 : Nat} {P4 : Option Addr} {n4 d4 : Nat} (h : Kd.string.C w A l.length l)
    (ha : w.heap[a]? = some (.cells #[.int .i64 k, .bool b, .slice P2 n2 d2, .slice P3 n3 d3, .slice P4 n4 d4] 26 (0, 0))) (v0 v1 v2 v3 v4 : Value) :
    Kd.string.C (((((w.setCell ⟨a, 0, none⟩ v0).setCell ⟨a, 1, none⟩ v1).setCell ⟨a, 2, none⟩ v2).setCell ⟨a, 3, none⟩ v3).setCell ⟨a, 4, none⟩ v4) A l.length l := by
  have b1 := blk_set ha 0 v0
  have b2 := blk_set b1 1 v1
  have b3 := blk_set b2 2 v2
  have b4 := blk_set b3 3 v3
  have s1 := C_set v0 h ((blk_cell ha 0).trans rfl) (fun s => by simp)
  have s2 := C_set v1 s1 ((blk_cell b1 1).trans rfl) (fun s => by simp)
  have s3 := C_set v2 s2 ((blk_cell b2 2).trans rfl) (fun s => by simp)
  have s4 := C_set v3 s3 ((blk_cell b3 3).trans rfl) (fun s => by simp)
  exact C_set v4 s4 ((blk_cell b4 4).trans rfl) (fun s => by simp)
set_option maxRecDepth 20000 in
set_option maxHeartbeats 8000000 in
theorem At_any (N : Nat) (t : S26) (A2 : Option Addr) (c2 : Nat) (A3 : Option Addr) (c3 : Nat) (A4 : Option Addr) (c4 : Nat) (place : ByteArray) (w : World)
    (ht : TR w t A2 c2 A3 c3 A4 c4) (hGt : GT N t) (hg : G0 w) (hp : place.size ≤ 999999) :
    Calls Tryd.prog 19 #[TV t A2 c2 A3 c3 A4 c4, .string place] w (PutQ w (AtS N t place)) := by
  have HT := Aside0.mk (And.intro ht (And.intro hg (show place.size ≤ 1000000 by omega)))
  have HG := Aside0.mk hGt
  clear ht hGt hg hp
  have HW := Aside0.mk (AW.enter w t A2 c2 A3 c3 A4 c4)
  go_enter Tryd.func19, Tryd.ntmps19
  go_upto_region 1 with fail
  generalize ((w.alloc (bx t A2 c2 A3 c3 A4 c4)).alloc (.cells #[.int .i64 0, .bool false, .slice none 0 0, .slice none 0 0, .slice none 0 0] 26)) = w3 at *
  obtain ⟨a, ha⟩ : ∃ q, w.heap.size = q := ⟨_, rfl⟩
  rw [ha] at HW ⊢
  clear ha
  obtain ⟨c, hc⟩ : ∃ q, a + 1 = q := ⟨_, rfl⟩
  rw [hc] at HW ⊢
  clear hc
  obtain ⟨x0, x1, x2, x3, x4⟩ := cells5 HW.out.ba
  go_wp2_with fail
  clear x0 x1 x2 x3 x4
  refine (Check_any N t A2 c2 A3 c3 A4 c4 w3 (HT.out.1.below HW.out.bel) HG.out).mono ?_
  rintro e w4 ⟨rfl, hb⟩
  have HW := Aside0.mk (HW.out.step hb)
  clear hb
  obtain ⟨k1, hk1⟩ : ∃ q, (chk N t 1 0).1 = q := ⟨_, rfl⟩
  rw [hk1]
  have HK1 := Aside0.mk hk1
  clear hk1
  by_cases hz : k1 = 0
  rotate_left
  · skip
    have hkb : (k1 != 0) = true := by simpa using hz
    have HP := Aside0.mk (show AtS N t place = (z0, k1) from by unfold AtS; rw [HK1.out, if_pos hz])
    obtain ⟨b0, b1, b2, b3, b4⟩ := cells5 HW.out.bc
    have f0 := blk_frozen HW.out.bc 0
    have f1 := blk_frozen HW.out.bc 1
    have f2 := blk_frozen HW.out.bc 2
    have f3 := blk_frozen HW.out.bc 3
    have f4 := blk_frozen HW.out.bc 4
    have HF := Aside0.mk (HW.out.setc (.int .i64 0) (.bool false) (.slice none 0 0) (.slice none 0 0) (.slice none 0 0))
    clear hz
    go_wp2_with fail
    refine bodyPost_ret (results_c1 rfl _ _ c 26 _ (0, 0) _ rfl HF.out.bc Tryd.underlying26 rfl (by kernel_rfl)) rfl ?_
    exact PutQ.zero HP.out HF.out.bel
  subst hz
  go_wp2_with fail
  refine (parts_any place w4 (HT.out.2.1.below HW.out.bel) HT.out.2.2).mono ?_
  rintro e w6 ⟨LA, lc, rfl, hlc, hC, hb⟩
  have HW := Aside0.mk (HW.out.step hb)
  clear hb
  obtain ⟨l, hl⟩ : ∃ q, partsS place = q := ⟨_, rfl⟩
  obtain ⟨ok, hok⟩ : ∃ q, l.all isE = q := ⟨_, rfl⟩
  have hll : l.length ≤ 1000001 := by rw [← hl]; exact partsS_len place HT.out.2.2
  rw [hl] at hlc hC ⊢
  rw [hok]
  have HL := Aside0.mk (And.intro hl hok)
  have HC := Aside0.mk (And.intro hC hlc)
  clear hl hok hC hlc
  cases ok with
  | false =>
    have HP := Aside0.mk (show AtS N t place = (z0, 9) from by unfold AtS; rw [HK1.out, if_neg (by simp), HL.out.1, if_pos HL.out.2])
    obtain ⟨b0, b1, b2, b3, b4⟩ := cells5 HW.out.bc
    have f0 := blk_frozen HW.out.bc 0
    have f1 := blk_frozen HW.out.bc 1
    have f2 := blk_frozen HW.out.bc 2
    have f3 := blk_frozen HW.out.bc 3
    have f4 := blk_frozen HW.out.bc 4
    have HF := Aside0.mk (HW.out.setc (.int .i64 0) (.bool false) (.slice none 0 0) (.slice none 0 0) (.slice none 0 0))
    go_wp2_with fail
    refine bodyPost_ret (results_c1 rfl _ _ c 26 _ (0, 0) _ rfl HF.out.bc Tryd.underlying26 rfl (by kernel_rfl)) rfl ?_
    exact PutQ.zero HP.out HF.out.bel
  | true =>
    have HAT : Aside0 (AtS N t place = atS l t) := ⟨by unfold AtS; rw [HK1.out, if_neg (by simp), HL.out.1, if_neg (by rw [HL.out.2]; simp)]⟩
    have HO : Aside0 (Okt N t) := ⟨chk_okt N t 1 0 HG.out (by omega) HK1.out⟩
    go_wp2_with fail
    go_loopw [29] (fun v wr => ∃ (k : Nat) (u : S26) (B2 : Option Addr) (d2 : Nat) (B3 : Option Addr) (d3 : Nat) (B4 : Option Addr) (d4 : Nat), v = .int .i64 (k : Int) ∧ k ≤ l.length ∧ Aside0 (atS l t = atS (l.drop k) u) ∧ Aside0 (TR w u B2 d2 B3 d3 B4 d4) ∧ Aside0 (GT N u) ∧ Aside0 (Okt N u) ∧ Aside0 (Below w6.heap.size w6 wr ∨ True) ∧ Aside0 (Kd.string.C wr LA l.length l) ∧ Aside0 (AW w wr a c #[.int .i64 u.f0, .bool u.f1, .slice B2 u.f2.length d2, .slice B3 u.f3.length d3, .slice B4 u.f4.length d4] #[.int .i64 0, .bool false, .slice none 0 0, .slice none 0 0, .slice none 0 0])) (fun v _ => l.length - (intOf v).toNat)
    case atStart => exact ⟨0, t, A2, c2, A3, c3, A4, c4, rfl, Nat.zero_le _, ⟨rfl⟩, ⟨HT.out.1⟩, HG, HO, ⟨.inr trivial⟩, ⟨HC.out.1⟩, HW⟩
    case round =>
      clear HW HO
      obtain ⟨k, u, B2, d2, B3, d3, B4, d4, rfl, hk, HE, HTU, HGU, HOU, -, HCL, HW⟩ := hrel
      by_cases hlt : k < l.length
      · skip
        obtain ⟨ad, hA, hcn⟩ := Kd.at_string HCL.out (k : Int) (by omega) (by omega)
        obtain ⟨nm, hnm⟩ : ∃ x, rdOf ByteArray.empty l (k : Int) = x := ⟨_, rfl⟩
        have hne : l[k] = nm := by rw [← hnm, rdB hlt]
        rw [hnm, Int.toNat_natCast] at hcn
        subst hA
        have HE2 : Aside0 (atS l t = atS (nm :: l.drop (k + 1)) u) := ⟨by rw [HE.out, List.drop_eq_getElem_cons hlt, hne]⟩
        clear hne hnm HE
        obtain ⟨x0, x1, x2, x3, x4⟩ := cells5 HW.out.ba
        go_wp2_with fail
        clear hcn x0 x1 x2 x3 x4
        refine (bs_any B3 d3 wr (OktS HOU.out).1 (OktS HOU.out).2 (Kd.C_below HTU.out.2.2.2.1 HW.out.bel) HTU.out.2.2.1).mono ?_
        rintro e w7 ⟨rfl, hd⟩
        obtain ⟨dn, rfl⟩ := hd
        have hdr := pw_below_drewN (Below.refl wr.heap.size wr) dn
        have HW := Aside0.mk (HW.out.step hdr)
        have HCL := Aside0.mk (Kd.C_below HCL.out hdr)
        clear hdr
        generalize wr.drewN dn = w8 at *
        obtain ⟨i, hi⟩ : ∃ q, posS u.f3 nm = q := ⟨_, rfl⟩
        obtain ⟨h, hh⟩ : ∃ q, hasS u.f3 nm = q := ⟨_, rfl⟩
        rw [hi, hh]
        have HI := Aside0.mk (And.intro hi hh)
        clear hi hh
        cases h with
        | false =>
          have HP := Aside0.mk (show AtS N t place = (z0, 7) from by rw [HAT.out, HE2.out, atS, if_neg (by rw [HI.out.2]; simp)])
          obtain ⟨b0, b1, b2, b3, b4⟩ := cells5 HW.out.bc
          have f0 := blk_frozen HW.out.bc 0
          have f1 := blk_frozen HW.out.bc 1
          have f2 := blk_frozen HW.out.bc 2
          have f3 := blk_frozen HW.out.bc 3
          have f4 := blk_frozen HW.out.bc 4
          have HF := Aside0.mk (HW.out.setc (.int .i64 0) (.bool false) (.slice none 0 0) (.slice none 0 0) (.slice none 0 0))
          go_wp2_with fail
          refine bodyPost_ret (results_c1 rfl _ _ c 26 _ (0, 0) _ rfl HF.out.bc Tryd.underlying26 rfl (by kernel_rfl)) rfl ?_
          exact PutQ.zero HP.out HF.out.bel
        | true =>
          have hil : i < u.f4.length := by
            have h1 := HI.out.1
            have h2 := HI.out.2
            have h3 := OktL HOU.out
            unfold hasS at h2
            rw [h1] at h2
            have := (List.getElem?_eq_some_iff.1 (of_decide_eq_true h2)).1
            omega
          obtain ⟨ad4, C2, q2, C3, q3, C4, q4, hA4, e0, e1, e2_, e3_, e4_, r1, r2, r3, r4, r5, r6⟩ := at_T26 HTU.out.2.2.2.2.2 (i : Int) (by omega) (by omega)
          obtain ⟨v, hv⟩ : ∃ x, rd_T26 u.f4 (i : Int) = x := ⟨_, rfl⟩
          have hve : u.f4[i] = v := by rw [← hv, rdT hil]
          rw [hv] at e0 e1 e2_ e3_ e4_ r1 r2 r3 r4 r5 r6
          rw [Int.toNat_natCast] at e0 e1 e2_ e3_ e4_
          have HTV : Aside0 (TR w v C2 q2 C3 q3 C4 q4) := ⟨⟨r1, r2, r3, r4, r5, r6⟩⟩
          have HV : Aside0 (u.f4.getD i dir0 = v) := ⟨by rw [List.getD_eq_getElem?_getD, List.getElem?_eq_getElem hil]; exact hve⟩
          have hvm : v ∈ u.f4 := hve ▸ List.getElem_mem hil
          have HGV : Aside0 (GT N v) := ⟨GT_kid HGU.out hvm⟩
          have HOV : Aside0 (Okt N v) := ⟨Okt_kid HOU.out hvm⟩
          have HE3 : Aside0 (atS l t = atS (l.drop (k + 1)) v) := ⟨by rw [HE2.out, atS, if_pos HI.out.2, HI.out.1, HV.out]⟩
          subst hA4
          have g0 := pw_cell_below HW.out.bel e0
          have g1 := pw_cell_below HW.out.bel e1
          have g2 := pw_cell_below HW.out.bel e2_
          have g3 := pw_cell_below HW.out.bel e3_
          have g4 := pw_cell_below HW.out.bel e4_
          clear hv hve hvm e0 e1 e2_ e3_ e4_ r1 r2 r3 r4 r5 r6 HE2
          obtain ⟨x0, x1, x2, x3, x4⟩ := cells5 HW.out.ba
          have f0 := blk_frozen HW.out.ba 0
          have f1 := blk_frozen HW.out.ba 1
          have f2 := blk_frozen HW.out.ba 2
          have f3 := blk_frozen HW.out.ba 3
          have f4 := blk_frozen HW.out.ba 4
          have hil4 : (i : Int) < (u.f4.length : Int) := by omega
          have HCN := Aside0.mk (CS_box HCL.out HW.out.ba (.int .i64 v.f0) (.bool v.f1) (.slice C2 v.f2.length q2) (.slice C3 v.f3.length q3) (.slice C4 v.f4.length q4))
          have HWN := Aside0.mk (HW.out.seta (.int .i64 v.f0) (.bool v.f1) (.slice C2 v.f2.length q2) (.slice C3 v.f3.length q3) (.slice C4 v.f4.length q4))
          go_wp2_with fail
          exact ⟨⟨k + 1, v, C2, q2, C3, q3, C4, q4, by go_num, by omega, HE3, HTV, HGV, HOV, ⟨.inr trivial⟩, HCN, HWN⟩, by simp [intOf]; omega⟩
      · skip
        have hkk : k = l.length := by omega
        have HE4 : Aside0 (AtS N t place = (u, 0)) := ⟨by rw [HAT.out, HE.out, hkk, List.drop_length, atS]⟩
        clear hkk HE
        obtain ⟨x0, x1, x2, x3, x4⟩ := cells5 HW.out.ba
        go_wp2_with fail
        clear x0 x1 x2 x3 x4
        refine (own_any N u B2 d2 B3 d3 B4 d4 wr (HTU.out.below HW.out.bel) HGU.out).mono ?_
        rintro e w10 ⟨J2, j2, J3, j3, J4, j4, rfl, ho, htr, hb⟩
        simp only [TV]
        have HCB : Aside0 (c < wr.heap.size) := ⟨blk_lt HW.out.bc⟩
        have HW := Aside0.mk (HW.out.step hb)
        have HOT := Aside0.mk ho
        clear hb ho htr
        obtain ⟨b0, b1, b2, b3, b4⟩ := cells5 HW.out.bc
        have f0 := blk_frozen HW.out.bc 0
        have f1 := blk_frozen HW.out.bc 1
        have f2 := blk_frozen HW.out.bc 2
        have f3 := blk_frozen HW.out.bc 3
        have f4 := blk_frozen HW.out.bc 4
        have HF := Aside0.mk (HW.out.setc (.int .i64 u.f0) (.bool u.f1) (.slice J2 u.f2.length j2) (.slice J3 u.f3.length j3) (.slice J4 u.f4.length j4))
        go_wp2_with fail
        refine bodyPost_ret (results_c1 rfl _ _ c 26 _ (0, 0) _ rfl HF.out.bc Tryd.underlying26 rfl (by kernel_rfl)) rfl ?_
        exact PutQ.of HE4.out (HOT.out.setb HCB.out _ _ _ _ _) (by have := HW.out.lo.2; have := HCB.out; omega) HF.out.bel
end Go.Proofs.YtfnofjcdaghniaaDoor.Tree
/- two trees in a row, two boxes. Own work. -/
namespace Go.Proofs.YtfnofjcdaghniaaDoor.Tree
set_option linter.unusedVariables false
set_option linter.unusedSimpArgs false
open Go.RowKit Go.Proofs.YtfnofjcdaghniaaDoor.PL Go.Proofs.YtfnofjcdaghniaaDoor.Mt Go.Proofs.YtfnofjcdaghniaaDoorW.PrintWords Go.Proofs.YtfnofjcdaghniaaDoorW.PrintLast Go.Proofs.YtfnofjcdaghniaaDoorW.PrintMore
theorem two_C {w : World} {g : Nat} {t u : S26} {A2 : Option Addr} {c2 : Nat} {A3 : Option Addr} {c3 : Nat} {A4 : Option Addr} {c4 : Nat} {B2 : Option Addr} {d2 : Nat} {B3 : Option Addr} {d3 : Nat} {B4 : Option Addr} {d4 : Nat}
    (hb : w.heap[g]? = some (.cells (cs5 t A2 c2 A3 c3 A4 c4 ++ cs5 u B2 d2 B3 d3 B4 d4).toArray 26 (0, 0))) (h : TR w t A2 c2 A3 c3 A4 c4) (h2 : TR w u B2 d2 B3 d3 B4 d4) : k26.C w (some ⟨g, 0, none⟩) 2 [t, u] := by
  have add : ∀ k : Nat, (⟨g, 0, none⟩ : Addr).add k = ⟨g, k, none⟩ := fun k => by
    cases k with
    | zero => rfl
    | succ k => simp [Addr.add]
  refine ⟨rfl, by decide, fun _ => ⟨_, rfl, fun j p hp => ?_⟩⟩
  match j, hp with
  | 0, hp =>
    simp only [List.getElem?_cons_zero, Option.some.injEq] at hp
    subst hp
    refine ⟨cs5 t A2 c2 A3 c3 A4 c4, rfl, h.K, fun i v hi => ?_⟩
    have hi5 : i < 5 := (List.getElem?_eq_some_iff.1 hi).1
    show w.cell? ((⟨g, 0, none⟩ : Addr).add (0 * 5 + i)) = some v
    rw [add, blk_cell hb, List.getElem?_toArray, List.getElem?_append_left (by show _ < 5; omega), show 0 * 5 + i = i by omega]
    exact hi
  | 1, hp =>
    simp only [List.getElem?_cons_succ, List.getElem?_cons_zero, Option.some.injEq] at hp
    subst hp
    refine ⟨cs5 u B2 d2 B3 d3 B4 d4, rfl, h2.K, fun i v hi => ?_⟩
    show w.cell? ((⟨g, 0, none⟩ : Addr).add (1 * 5 + i)) = some v
    rw [add, blk_cell hb, List.getElem?_toArray, List.getElem?_append_right (by show 5 ≤ _; omega), show 1 * 5 + i - (cs5 t A2 c2 A3 c3 A4 c4).length = i from by show 1 * 5 + i - 5 = i; omega]
    exact hi
  | (j + 2), hp => simp at hp
theorem AW.enter2 (w : World) (t u : S26) (A2 : Option Addr) (c2 : Nat) (A3 : Option Addr) (c3 : Nat) (A4 : Option Addr) (c4 : Nat) (B2 : Option Addr) (d2 : Nat) (B3 : Option Addr) (d3 : Nat) (B4 : Option Addr) (d4 : Nat) :
    AW w ((w.alloc (bx t A2 c2 A3 c3 A4 c4)).alloc (bx u B2 d2 B3 d3 B4 d4)) w.heap.size (w.heap.size + 1) #[.int .i64 t.f0, .bool t.f1, .slice A2 t.f2.length c2, .slice A3 t.f3.length c3, .slice A4 t.f4.length c4] #[.int .i64 u.f0, .bool u.f1, .slice B2 u.f2.length d2, .slice B3 u.f3.length d3, .slice B4 u.f4.length d4] := by
  obtain ⟨w1, hw1⟩ : ∃ q, w.alloc (bx t A2 c2 A3 c3 A4 c4) = q := ⟨_, rfl⟩
  have h1 : Below w.heap.size w w1 := hw1 ▸ below_alloc (Below.refl _ w) _
  have z1 : w1.heap.size = w.heap.size + 1 := by rw [← hw1]; simp
  have k1 : w1.heap[w.heap.size]? = some (bx t A2 c2 A3 c3 A4 c4) := hw1 ▸ heap_alloc_new w _
  have k2 := heap_alloc_new w1 (bx u B2 d2 B3 d3 B4 d4)
  rw [z1] at k2
  rw [hw1]
  exact ⟨blk_alloc k1 _, k2, by omega, by omega, below_alloc h1 _⟩
end Go.Proofs.YtfnofjcdaghniaaDoor.Tree
/- where a name stands, as a plain law. Own work. -/
namespace Go.Proofs.YtfnofjcdaghniaaDoor.Tree
set_option linter.unusedVariables false
set_option linter.unusedSimpArgs false
open Go.RowKit Go.Proofs.YtfnofjcdaghniaaDoor.PL Go.Proofs.YtfnofjcdaghniaaDoor.Mt Go.Proofs.YtfnofjcdaghniaaDoorW.PrintWords Go.Proofs.YtfnofjcdaghniaaDoorW.PrintLast Go.Proofs.YtfnofjcdaghniaaDoorW.PrintMore
theorem pos_at {l : List ByteArray} {n : ByteArray} (hs : Srt l) {i : Nat} (hi : i < l.length) (he : l[i] = n) : posS l n = i :=
  posS_unique (Nat.le_of_lt hi) (fun j hj hji => by rw [← he]; exact hs.lt hji hi) (fun _ => by rw [he]; exact ltB_irrefl n)
theorem has_at {l : List ByteArray} {n : ByteArray} (hs : Srt l) {i : Nat} (hi : i < l.length) (he : l[i] = n) : hasS l n = true := by
  unfold hasS
  rw [pos_at hs hi he, List.getElem?_eq_getElem hi, he]
  simp
theorem has_not {l : List ByteArray} {n : ByteArray} (h : ∀ j (hj : j < l.length), l[j] ≠ n) : hasS l n = false := by
  unfold hasS
  refine decide_eq_false (fun e => ?_)
  obtain ⟨h1, h2⟩ := List.getElem?_eq_some_iff.1 e
  exact h _ h1 h2
end Go.Proofs.YtfnofjcdaghniaaDoor.Tree
/- the reference's find, as a plain law. Own work. -/
namespace Go.Proofs.YtfnofjcdaghniaaDoor.Tree
set_option linter.unusedVariables false
set_option linter.unusedSimpArgs false
open Go.RowKit Go.Proofs.YtfnofjcdaghniaaDoor.PL Go.Proofs.YtfnofjcdaghniaaDoor.Mt Go.Proofs.YtfnofjcdaghniaaDoorW.PrintWords Go.Proofs.YtfnofjcdaghniaaDoorW.PrintLast Go.Proofs.YtfnofjcdaghniaaDoorW.PrintMore
def findS (l : List ByteArray) (n : ByteArray) : Int := if hasS l n = true then (posS l n : Int) else -1
theorem find_l (n : ByteArray) (a : Int) (b : Bool) (l2 : List Int) (l : List ByteArray) (l4 : List S26) (hs : Srt l) (hl : l.length ≤ 1000000) : ∀ (d k : Nat), l.length - k ≤ d → k ≤ l.length → (∀ j (hj : j < l.length), j < k → l[j] ≠ n) → ∀ K, d + 1 ≤ K → pantryref4_find.l0 K n (k : Int) a b l2 l l4 = some (findS l n) := by
  intro d
  induction d with
  | zero =>
    intro k h1 h2 h3 K hK
    obtain ⟨K, rfl⟩ : ∃ q, K = q + 1 := ⟨K - 1, by omega⟩
    rw [pantryref4_find.l0, if_neg (by omega), findS, has_not (fun j hj => h3 j hj (by omega)), if_neg (by simp)]
  | succ d ih =>
    intro k h1 h2 h3 K hK
    obtain ⟨K, rfl⟩ : ∃ q, K = q + 1 := ⟨K - 1, by omega⟩
    by_cases hlt : k < l.length
    · rw [pantryref4_find.l0, if_pos (by omega), if_pos (by omega), rdB hlt]
      by_cases he : l[k].toList = n.toList
      · have he2 : l[k] = n := ba_eq.1 he
        rw [if_pos he, findS, has_at hs hlt he2, if_pos rfl, pos_at hs hlt he2]
      · rw [if_neg he, nx (by omega)]
        refine ih (k + 1) (by omega) (by omega) (fun j hj hjk => ?_) K (by omega)
        by_cases hjj : j = k
        · subst hjj; exact fun e => he (by rw [e])
        · exact h3 j hj (by omega)
    · rw [pantryref4_find.l0, if_neg (by omega), findS, has_not (fun j hj => h3 j hj (by omega)), if_neg (by simp)]
theorem find_any (t : S26) (A2 : Option Addr) (c2 : Nat) (A3 : Option Addr) (c3 : Nat) (A4 : Option Addr) (c4 : Nat) (n : ByteArray) (w : World) (h : TR w t A2 c2 A3 c3 A4 c4) (hs : Srt t.f3) (hl : t.f3.length ≤ 1000000) :
    Calls Tryd.prog 39 #[TV t A2 c2 A3 c3 A4 c4, .string n] w fun e w' => e = .returned (.int .i64 (findS t.f3 n)) ∧ Below w.heap.size w w' := by
  obtain ⟨x1, x2, x3, x4, x5, x6⟩ := h
  exact pantryref4_find.calls (t.f3.length + 1) t.f0 t.f1 A2 c2 t.f2 A3 c3 t.f3 A4 c4 t.f4 n _ w x2 x1 x4 x3 x6 x5 (find_l n t.f0 t.f1 t.f2 t.f3 t.f4 hs hl t.f3.length 0 (by omega) (by omega) (fun j _ hj => by omega) _ (by omega))
end Go.Proofs.YtfnofjcdaghniaaDoor.Tree
/- the names of a place, by a scan. Own work. -/
namespace Go.Proofs.YtfnofjcdaghniaaDoor.Tree
set_option linter.unusedVariables false
set_option linter.unusedSimpArgs false
open Go.RowKit Go.Proofs.YtfnofjcdaghniaaDoor.PL Go.Proofs.YtfnofjcdaghniaaDoor.Mt Go.Proofs.YtfnofjcdaghniaaDoorW.PrintWords Go.Proofs.YtfnofjcdaghniaaDoorW.PrintLast Go.Proofs.YtfnofjcdaghniaaDoorW.PrintMore
def scanL : List UInt8 → List UInt8 → List (List UInt8)
  | [], acc => [acc]
  | c :: r, acc => if c = 47 then acc :: scanL r [] else scanL r (acc ++ [c])
/-- the first piece, and the rest -/
def cutL : List UInt8 → List UInt8 × Option (List UInt8)
  | [] => ([], none)
  | c :: r => if c = 47 then ([], some r) else (c :: (cutL r).1, (cutL r).2)
theorem scan_cut : ∀ (L acc : List UInt8), scanL L acc = match (cutL L).2 with | none => [acc ++ (cutL L).1] | some r => (acc ++ (cutL L).1) :: scanL r [] := by
  intro L
  induction L with
  | nil => intro acc; simp [scanL, cutL]
  | cons c r ih =>
    intro acc
    rw [scanL, cutL]
    by_cases h : c = 47
    · rw [if_pos h, if_pos h]; simp
    · rw [if_neg h, if_neg h, ih (acc ++ [c])]
      cases h2 : (cutL r).2 with
      | none => simp
      | some q => simp
theorem cut_none : ∀ {L : List UInt8}, Lib.indexByte L 47 = -1 → (cutL L).2 = none ∧ (cutL L).1 = L := by
  intro L
  induction L with
  | nil => intro _; exact ⟨rfl, rfl⟩
  | cons c r ih =>
    intro h
    have h0 := Lib.indexByte_none h 0
    have hc : c ≠ 47 := fun e => h0 (by simp [e])
    have hr : Lib.indexByte r 47 = -1 := by
      rcases Classical.em (Lib.indexByte r 47 < 0) with h5 | h5
      · have := Lib.indexByte_ge r 47; omega
      · obtain ⟨o, ho⟩ : ∃ o : Nat, Lib.indexByte r 47 = o := ⟨(Lib.indexByte r 47).toNat, by omega⟩
        have := (Lib.indexByte_some ho).1
        exact absurd (by simpa using this) (Lib.indexByte_none h (o + 1))
    obtain ⟨i1, i2⟩ := ih hr
    rw [cutL, if_neg hc, i1, i2]
    exact ⟨rfl, rfl⟩
theorem cut_some : ∀ {L : List UInt8} {i : Nat}, Lib.indexByte L 47 = i → (cutL L).1 = L.take i ∧ (cutL L).2 = some (L.drop (i + 1)) := by
  intro L
  induction L with
  | nil => intro i h; have := (Lib.indexByte_some h).1; simp at this
  | cons c r ih =>
    intro i h
    obtain ⟨h1, h2⟩ := Lib.indexByte_some h
    cases i with
    | zero =>
      have hc : c = 47 := by simpa using h1
      rw [cutL, if_pos hc]
      exact ⟨rfl, rfl⟩
    | succ i =>
      have hc : c ≠ 47 := fun e => h2 0 (by omega) (by simp [e])
      have hr : Lib.indexByte r 47 = i := by
        rcases Classical.em (Lib.indexByte r 47 < 0) with h5 | h5
        · have h6 : Lib.indexByte r 47 = -1 := by have := Lib.indexByte_ge r 47; omega
          exact absurd (by simpa using h1) (Lib.indexByte_none h6 i)
        · obtain ⟨o, ho⟩ : ∃ o : Nat, Lib.indexByte r 47 = o := ⟨(Lib.indexByte r 47).toNat, by omega⟩
          obtain ⟨g1, g2⟩ := Lib.indexByte_some ho
          have e : o = i := by
            rcases Nat.lt_trichotomy o i with h7 | h7 | h7
            · exact absurd (by simpa using g1) (h2 (o + 1) (by omega))
            · exact h7
            · exact absurd (by simpa using h1) (g2 i h7)
          rw [ho, e]
      obtain ⟨i1, i2⟩ := ih hr
      rw [cutL, if_neg hc, i1, i2]
      exact ⟨rfl, rfl⟩
theorem split_scan : ∀ (k : Nat) (s : ByteArray), Lib.countB s slash = k → (Lib.splitB slash 0 k s).map (fun b => b.data.toList) = scanL s.data.toList [] := by
  intro k
  induction k with
  | zero =>
    intro s h
    rcases Lib.indexB_cases s slash with h1 | ⟨i, h1, h2⟩
    · rw [Lib.splitB_miss _ _ _ _ h1, scan_cut]
      have h3 : Lib.indexByte s.data.toList 47 = -1 := by rw [← Lib.index_one]; exact h1
      obtain ⟨i1, i2⟩ := cut_none h3
      rw [i1, i2]; rfl
    · have := Lib.countB_hit s slash i (by decide) h1; omega
  | succ k ih =>
    intro s h
    rcases Lib.indexB_cases s slash with h1 | ⟨i, h1, h2⟩
    · have := Lib.countB_miss s slash h1; omega
    · have hc := Lib.countB_hit s slash i (by decide) h1
      rw [Lib.splitB_hit _ _ _ _ i h1, List.map_cons, ih _ (by omega), scan_cut s.data.toList []]
      have h3 : Lib.indexByte s.data.toList 47 = i := by rw [← Lib.index_one]; exact h1
      obtain ⟨i1, i2⟩ := cut_some h3
      rw [i1, i2]
      have hs1 : slash.size = 1 := rfl
      have e1 : (s.extract 0 (i + 0)).data.toList = s.data.toList.take i := by simp
      have e2 : (s.extract (i + slash.size) s.size).data.toList = s.data.toList.drop (i + 1) := by
        rw [hs1]
        simp only [ByteArray.data_extract, Array.toList_extract]
        rw [List.extract_eq_take_drop, List.take_of_length_le]
        rw [List.length_drop, Array.length_toList]
        show s.size - (i + 1) ≤ _
        omega
      rw [e1, e2]; rfl
end Go.Proofs.YtfnofjcdaghniaaDoor.Tree
/- the reference's IsEntry and Parts, as plain laws. Own work. -/
namespace Go.Proofs.YtfnofjcdaghniaaDoor.Tree
set_option linter.unusedVariables false
set_option linter.unusedSimpArgs false
open Go.RowKit Go.Proofs.YtfnofjcdaghniaaDoor.PL Go.Proofs.YtfnofjcdaghniaaDoor.Mt Go.Proofs.YtfnofjcdaghniaaDoorW.PrintWords Go.Proofs.YtfnofjcdaghniaaDoorW.PrintLast Go.Proofs.YtfnofjcdaghniaaDoorW.PrintMore
theorem bt_iff (s : ByteArray) (k : Nat) (h : k < s.data.toList.length) (c : UInt8) : bt s (k : Int) = (c.toNat : Int) ↔ s.data.toList[k] = c := by
  have hs : k < s.size := by rw [size_data] at h; exact h
  have h1 := bt_at s (k : Int) (by rw [Int.toNat_natCast]; exact hs)
  rw [← h1]
  have h2 : (s[(k : Int).toNat]'(by rw [Int.toNat_natCast]; exact hs)) = s.data.toList[k] := ba_get s k hs h
  rw [h2]
  constructor
  · intro e; exact UInt8.toNat.inj (by omega)
  · intro e; rw [e]
theorem ie_l (s : ByteArray) (hl : s.size ≤ 100) : ∀ (d k : Nat), s.size - k ≤ d → k ≤ s.size → ∀ K, d + 1 ≤ K → pantryref4_IsEntry.l0 K s (k : Int) = some (!(s.data.toList.drop k).contains 47 && !(s.data.toList.drop k).contains 0) := by
  have hsz := size_data s
  intro d
  induction d with
  | zero =>
    intro k h1 h2 K hK
    obtain ⟨K, rfl⟩ : ∃ q, K = q + 1 := ⟨K - 1, by omega⟩
    rw [pantryref4_IsEntry.l0, if_neg (by omega), List.drop_eq_nil_of_le (by omega)]
    rfl
  | succ d ih =>
    intro k h1 h2 K hK
    obtain ⟨K, rfl⟩ : ∃ q, K = q + 1 := ⟨K - 1, by omega⟩
    by_cases hlt : k < s.size
    · have hlt2 : k < s.data.toList.length := by omega
      rw [pantryref4_IsEntry.l0, if_pos (by omega), if_pos (by omega), List.drop_eq_getElem_cons hlt2]
      by_cases h47 : bt s (k : Int) = 47
      · have e := (bt_iff s k hlt2 47).1 h47
        rw [if_pos h47, e]
        simp
      · have e : s.data.toList[k] ≠ 47 := fun e => h47 ((bt_iff s k hlt2 47).2 e)
        rw [if_neg h47]
        by_cases h0 : bt s (k : Int) = 0
        · have e0 := (bt_iff s k hlt2 0).1 h0
          rw [if_pos h0, e0]
          simp
        · have e0 : s.data.toList[k] ≠ 0 := fun e => h0 ((bt_iff s k hlt2 0).2 e)
          rw [if_neg h0, nx (by omega), ih (k + 1) (by omega) (by omega) K (by omega), List.contains_cons, List.contains_cons, beq_eq_false_iff_ne.2 e.symm, beq_eq_false_iff_ne.2 e0.symm]
          rfl
    · rw [pantryref4_IsEntry.l0, if_neg (by omega), List.drop_eq_nil_of_le (by omega)]
      rfl
theorem ie_f (s : ByteArray) : ∀ K, 103 ≤ K → pantryref4_IsEntry.f K s = some (isE s) := by
  intro K hK
  obtain ⟨K, rfl⟩ : ∃ q, K = q + 1 := ⟨K - 1, by omega⟩
  unfold pantryref4_IsEntry.f isE
  rw [index_neg, index_neg]
  by_cases h1 : (s.size : Int) < 1
  · rw [if_pos h1, pantryref4_IsEntry.j0, if_pos rfl, decide_eq_false (by omega : ¬ 1 ≤ (s.size : Int))]; rfl
  rw [if_neg h1, decide_eq_true (by omega : 1 ≤ (s.size : Int))]
  by_cases h2 : (s.size : Int) > 100
  · rw [if_pos h2, pantryref4_IsEntry.j0, if_pos rfl, decide_eq_false (by omega : ¬ (s.size : Int) ≤ 100)]; rfl
  rw [if_neg h2, decide_eq_true (by omega : (s.size : Int) ≤ 100)]
  by_cases h3 : s.toList = [46]
  · rw [if_pos h3, pantryref4_IsEntry.j0, if_pos rfl, h3]; rfl
  rw [if_neg h3, beq_eq_false_iff_ne.2 h3, pantryref4_IsEntry.j0]
  by_cases h4 : s.toList = [46, 46]
  · rw [if_pos (by rw [h4]; rfl), h4]; rfl
  have hl := ie_l s (by omega) s.size 0 (by omega) (by omega) K (by omega)
  rw [if_neg (by simpa using h4), beq_eq_false_iff_ne.2 h4]
  rw [List.drop_zero] at hl
  simpa using hl
end Go.Proofs.YtfnofjcdaghniaaDoor.Tree
/- the reference's Parts, as a plain law. Own work. -/
namespace Go.Proofs.YtfnofjcdaghniaaDoor.Tree
set_option linter.unusedVariables false
set_option linter.unusedSimpArgs false
open Go.RowKit Go.Proofs.YtfnofjcdaghniaaDoor.PL Go.Proofs.YtfnofjcdaghniaaDoor.Mt Go.Proofs.YtfnofjcdaghniaaDoorW.PrintWords Go.Proofs.YtfnofjcdaghniaaDoorW.PrintLast Go.Proofs.YtfnofjcdaghniaaDoorW.PrintMore
def mkB (l : List UInt8) : ByteArray := ⟨l.toArray⟩
theorem mkB_data (s : ByteArray) : mkB s.data.toList = s := by
  cases s with
  | mk d => unfold mkB; simp
def resP (dn ps : List ByteArray) : List ByteArray × Bool := if ps.all isE = true then (dn ++ ps, true) else ([], false)
theorem resP_cons {dn ps : List ByteArray} {p : ByteArray} (h : isE p = true) : resP dn (p :: ps) = resP (dn ++ [p]) ps := by
  unfold resP
  rw [List.all_cons, h, Bool.true_and, List.append_assoc]; rfl
theorem resP_bad {dn ps : List ByteArray} {p : ByteArray} (h : isE p = false) : resP dn (p :: ps) = ([], false) := by
  unfold resP
  rw [List.all_cons, h, Bool.false_and, if_neg (by simp)]
theorem bind_true (f : Bool → Option (List ByteArray × Bool)) : (some true).bind f = f true := rfl
theorem bind_false (f : Bool → Option (List ByteArray × Bool)) : (some false).bind f = f false := rfl
theorem parts_l (s : ByteArray) (hl : s.size ≤ 1000000) : ∀ (d i : Nat), s.size - i ≤ d → i ≤ s.size → ∀ (dn : List ByteArray) (acc : ByteArray), acc.size ≤ i → dn.length ≤ i → ∀ K, 2 * d + 110 ≤ K →
    pantryref4_Parts.l0 K s dn acc (i : Int) = some (resP dn ((scanL (s.data.toList.drop i) acc.data.toList).map mkB)) := by
  have hsz := size_data s
  intro d
  induction d with
  | zero =>
    intro i h1 h2 dn acc ha hd K hK
    obtain ⟨K, rfl⟩ : ∃ q, K = q + 3 := ⟨K - 3, by omega⟩
    rw [pantryref4_Parts.l0, if_pos (by omega), if_neg (by omega), pantryref4_Parts.j1, if_neg (by simp), ie_f acc (K + 1) (by omega), List.drop_eq_nil_of_le (by omega), scanL, List.map_cons, List.map_nil, mkB_data]
    cases h : isE acc with
    | true =>
      rw [resP_cons h]
      rw [bind_true]
      rw [if_pos rfl, if_pos (by omega), nx (by omega), pantryref4_Parts.l0, if_neg (by omega)]
      simp [resP]
    | false =>
      rw [resP_bad h]
      rw [bind_false]
      rw [if_neg (by simp)]
  | succ d ih =>
    intro i h1 h2 dn acc ha hd K hK
    by_cases hlt : i < s.size
    · have hlt2 : i < s.data.toList.length := by omega
      obtain ⟨K, rfl⟩ : ∃ q, K = q + 2 := ⟨K - 2, by omega⟩
      rw [pantryref4_Parts.l0, if_pos (by omega), if_pos (by omega), if_pos (by omega), List.drop_eq_getElem_cons hlt2, scanL]
      by_cases hc : s.data.toList[i] = 47
      · have hb : (bt s (i : Int) != 47) = false := by rw [(bt_iff s i hlt2 47).2 hc]; rfl
        rw [hb, pantryref4_Parts.j1, if_neg (by simp), ie_f acc K (by omega), if_pos hc, List.map_cons, mkB_data]
        cases h : isE acc with
        | true =>
          rw [resP_cons h]
          rw [bind_true]
          rw [if_pos rfl, if_pos (by omega), nx (by omega)]
          exact ih (i + 1) (by omega) (by omega) (dn ++ [acc]) ⟨#[]⟩ (Nat.zero_le _) (by simp; omega) K (by omega)
        | false =>
          rw [resP_bad h]
          rw [bind_false]
          rw [if_neg (by simp)]
      · have hb : (bt s (i : Int) != 47) = true := by
          rw [bne_iff_ne]
          exact fun e => hc ((bt_iff s i hlt2 47).1 e)
        have hex : (s.extract i (i + 1)).data.toList = [s.data.toList[i]] := by
          simp only [ByteArray.data_extract, Array.toList_extract]
          rw [List.extract_eq_take_drop, List.drop_eq_getElem_cons hlt2, show i + 1 - i = 1 by omega, List.take_succ_cons, List.take_zero]
        have hes : (s.extract i (i + 1)).size = 1 := by rw [← size_data, hex]; rfl
        rw [hb, pantryref4_Parts.j1, if_pos rfl, if_pos (by omega), nx (by omega), if_pos (by omega), if_pos (by omega), Int.toNat_natCast, Int.toNat_natCast, if_pos (by omega), if_neg hc]
        have h9 := ih (i + 1) (by omega) (by omega) dn (acc ++ s.extract i (i + 1)) (by rw [ByteArray.size_append]; omega) (by omega) K (by omega)
        rw [h9, ByteArray.data_append, Array.toList_append, hex]
    · obtain ⟨K, rfl⟩ : ∃ q, K = q + 3 := ⟨K - 3, by omega⟩
      rw [pantryref4_Parts.l0, if_pos (by omega), if_neg (by omega), pantryref4_Parts.j1, if_neg (by simp), ie_f acc (K + 1) (by omega), List.drop_eq_nil_of_le (by omega), scanL, List.map_cons, List.map_nil, mkB_data]
      cases h : isE acc with
      | true =>
        rw [resP_cons h]
        rw [bind_true]
        rw [if_pos rfl, if_pos (by omega), nx (by omega), pantryref4_Parts.l0, if_neg (by omega)]
        simp [resP]
      | false =>
        rw [resP_bad h]
        rw [bind_false]
        rw [if_neg (by simp)]
theorem parts_f (s : ByteArray) (hl : s.size ≤ 1000000) : ∃ K, pantryref4_Parts.f K s = some (resP [] (partsS s)) := by
  refine ⟨2 * s.size + 110, ?_⟩
  unfold pantryref4_Parts.f partsS
  by_cases h0 : s.size = 0
  · have he : s.toList = [] := by
      rw [toList_data]
      exact List.eq_nil_of_length_eq_zero (by rw [size_data]; exact h0)
    rw [if_pos he, if_pos h0]; rfl
  · have he : s.toList ≠ [] := fun e => h0 (by rw [toList_data] at e; rw [← size_data, e]; rfl)
    rw [if_neg he, if_neg h0]
    have h9 := parts_l s hl s.size 0 (by omega) (by omega) [] ⟨#[]⟩ (Nat.le_refl _) (Nat.le_refl _) (2 * s.size + 110) (Nat.le_refl _)
    have h8 := split_scan (Lib.countB s slash) s rfl
    rw [List.drop_zero] at h9
    have e1 : ((⟨#[]⟩ : ByteArray).data.toList) = [] := rfl
    rw [e1, ← h8, List.map_map] at h9
    have e2 : (Lib.splitB slash 0 (Lib.countB s slash) s).map (mkB ∘ fun b => b.data.toList) = Lib.splitB slash 0 (Lib.countB s slash) s := by
      conv => rhs; rw [← List.map_id (Lib.splitB slash 0 (Lib.countB s slash) s)]
      exact List.map_congr_left (fun b _ => mkB_data b)
    rw [e2] at h9
    exact h9
theorem RParts_any (s : ByteArray) (w : World) (hl : s.size ≤ 1000000) :
    Calls Tryd.prog 23 #[.string s] w fun e w' => ∃ v0_ : Value, e = .returned (.tuple #[v0_, .bool (resP [] (partsS s)).2]) ∧ Kd.R Kd.string 9 w' w.heap.size (fun _ => True) v0_ (resP [] (partsS s)).1 ∧ Below w.heap.size w w' := by
  obtain ⟨K, hK⟩ := parts_f s hl
  exact pantryref4_Parts.calls K s (resP [] (partsS s)).1 (resP [] (partsS s)).2 w hK
end Go.Proofs.YtfnofjcdaghniaaDoor.Tree
/- put and at, as plain laws. Own work. -/
namespace Go.Proofs.YtfnofjcdaghniaaDoor.Tree
set_option linter.unusedVariables false
set_option linter.unusedSimpArgs false
open Go.RowKit Go.Proofs.YtfnofjcdaghniaaDoor.PL Go.Proofs.YtfnofjcdaghniaaDoor.Mt Go.Proofs.YtfnofjcdaghniaaDoorW.PrintWords Go.Proofs.YtfnofjcdaghniaaDoorW.PrintLast Go.Proofs.YtfnofjcdaghniaaDoorW.PrintMore
theorem pos_lt {l : List ByteArray} {n : ByteArray} {j : Nat} (hj : j < l.length) (h : j < posS l n) : ltB l[j] n = true := by
  have h1 : l[j] ∈ l.takeWhile (fun s => ltB s n) := by
    have h2 : (l.takeWhile (fun s => ltB s n)) <+: l := List.takeWhile_prefix _
    have h3 : j < (l.takeWhile (fun s => ltB s n)).length := h
    have h4 := h2.getElem h3
    rw [← h4]
    exact List.getElem_mem h3
  exact List.all_eq_true.1 (List.all_takeWhile (p := fun s => ltB s n) (l := l)) _ h1
theorem pos_not {l : List ByteArray} {n : ByteArray} (h : posS l n < l.length) : ltB l[posS l n] n = false := by
  induction l with
  | nil => simp at h
  | cons a l ih =>
    cases ha : ltB a n with
    | false =>
      have e : posS (a :: l) n = 0 := by unfold posS; rw [List.takeWhile_cons, if_neg (by rw [ha]; simp)]; rfl
      simp only [e]
      exact ha
    | true =>
      have e : posS (a :: l) n = posS l n + 1 := by unfold posS; rw [List.takeWhile_cons, if_pos ha]; rfl
      have h2 : posS l n < l.length := by rw [e, List.length_cons] at h; omega
      simp only [e, List.getElem_cons_succ]
      exact ih h2
theorem above {l : List ByteArray} {n : ByteArray} (hs : Srt l) (hh : hasS l n = false) {j : Nat} (hj : j < l.length) (h : posS l n ≤ j) : ltB n l[j] = true := by
  have hp : posS l n < l.length := by omega
  have h1 := pos_not hp
  have h2 : l[posS l n] ≠ n := fun e => by
    have : hasS l n = true := by unfold hasS; rw [List.getElem?_eq_getElem hp, e]; simp
    rw [hh] at this
    cases this
  have h3 : ltB n l[posS l n] = true := by
    cases h4 : ltB n l[posS l n] with
    | true => rfl
    | false => exact absurd (ltB_tri h1 h4) h2
  rcases Nat.eq_or_lt_of_le h with h5 | h5
  · simp only [← h5]; exact h3
  · exact ltB_trans h3 (hs.lt h5 hj)
theorem ins_srt {l : List ByteArray} {n : ByteArray} (hs : Srt l) (hh : hasS l n = false) : Srt (l.take (posS l n) ++ n :: l.drop (posS l n)) := by
  have hd : ∀ y ∈ l.drop (posS l n), ltB n y = true := by
    intro y hy
    obtain ⟨j, hj, rfl⟩ := List.getElem_of_mem hy
    rw [List.getElem_drop]
    exact above hs hh _ (by omega)
  have ht : ∀ y ∈ l.take (posS l n), ltB y n = true := by
    intro y hy
    obtain ⟨j, hj, rfl⟩ := List.getElem_of_mem hy
    rw [List.getElem_take]
    rw [List.length_take] at hj
    exact pos_lt _ (by omega)
  refine List.pairwise_append.2 ⟨hs.sublist (List.take_sublist _ _), List.pairwise_cons.2 ⟨hd, hs.sublist (List.drop_sublist _ _)⟩, fun x hx y hy => ?_⟩
  rcases List.mem_cons.1 hy with rfl | hy
  · exact ht x hx
  · exact ltB_trans (ht x hx) (hd y hy)
theorem has_mem {l : List ByteArray} {b : ByteArray} (hs : Srt l) : hasS l b = true ↔ b ∈ l := by
  constructor
  · intro h
    unfold hasS at h
    exact List.mem_of_getElem? (of_decide_eq_true h)
  · intro h
    obtain ⟨j, hj, e⟩ := List.getElem_of_mem h
    exact has_at hs hj e
theorem has_get {l : List ByteArray} {b : ByteArray} (h : hasS l b = true) : ∃ h9 : posS l b < l.length, l[posS l b] = b := by
  unfold hasS at h
  exact List.getElem?_eq_some_iff.1 (of_decide_eq_true h)
/-- a name beside the new one -/
theorem ins_other {l : List ByteArray} {a b : ByteArray} (hs : Srt l) (hh : hasS l a = false) (hne : b ≠ a) :
    hasS (l.take (posS l a) ++ a :: l.drop (posS l a)) b = hasS l b ∧ (hasS l b = true → posS (l.take (posS l a) ++ a :: l.drop (posS l a)) b = if posS l b < posS l a then posS l b else posS l b + 1) := by
  have hS := ins_srt hs hh
  have hle := posS_le l a
  cases hb : hasS l b with
  | false =>
    refine ⟨?_, fun h => by cases h⟩
    cases h9 : hasS (l.take (posS l a) ++ a :: l.drop (posS l a)) b with
    | false => rfl
    | true =>
      have h8 := (has_mem hS).1 h9
      rcases List.mem_append.1 h8 with h7 | h7
      · rw [(has_mem hs).2 (List.mem_of_mem_take h7)] at hb; cases hb
      · rcases List.mem_cons.1 h7 with h6 | h6
        · exact absurd h6 hne
        · rw [(has_mem hs).2 (List.mem_of_mem_drop h6)] at hb; cases hb
  | true =>
    obtain ⟨hj, he⟩ := has_get hb
    have hlen : (l.take (posS l a)).length = posS l a := by rw [List.length_take]; omega
    have hget : (l.take (posS l a) ++ a :: l.drop (posS l a))[if posS l b < posS l a then posS l b else posS l b + 1]? = some b := by
      by_cases h5 : posS l b < posS l a
      · rw [if_pos h5, List.getElem?_append_left (by omega), List.getElem?_take, if_pos h5, List.getElem?_eq_getElem hj, he]
      · rw [if_neg h5, List.getElem?_append_right (by omega), hlen, show posS l b + 1 - posS l a = (posS l b - posS l a) + 1 by omega, List.getElem?_cons_succ, List.getElem?_drop, show posS l a + (posS l b - posS l a) = posS l b by omega, List.getElem?_eq_getElem hj, he]
    obtain ⟨h3, h4⟩ := List.getElem?_eq_some_iff.1 hget
    exact ⟨has_at hS h3 h4, fun _ => pos_at hS h3 h4⟩
theorem ins_same {l : List ByteArray} {a : ByteArray} (hs : Srt l) (hh : hasS l a = false) : hasS (l.take (posS l a) ++ a :: l.drop (posS l a)) a = true ∧ posS (l.take (posS l a) ++ a :: l.drop (posS l a)) a = posS l a := by
  have hS := ins_srt hs hh
  have hle := posS_le l a
  have hlen : (l.take (posS l a)).length = posS l a := by rw [List.length_take]; omega
  have hget : (l.take (posS l a) ++ a :: l.drop (posS l a))[posS l a]? = some a := by
    rw [List.getElem?_append_right (by omega), hlen, Nat.sub_self]; rfl
  obtain ⟨h3, h4⟩ := List.getElem?_eq_some_iff.1 hget
  exact ⟨has_at hS h3 h4, pos_at hS h3 h4⟩
theorem take_min_cons {a b : ByteArray} {l m : List ByteArray} : (a :: l).take (min (a :: l).length (b :: m).length) ≠ (b :: m).take (min (a :: l).length (b :: m).length) ↔ a ≠ b ∨ l.take (min l.length m.length) ≠ m.take (min l.length m.length) := by
  rw [List.length_cons, List.length_cons, Nat.add_min_add_right, List.take_succ_cons, List.take_succ_cons]
  constructor
  · intro h
    by_cases hab : a = b
    · right; intro e; exact h (by rw [hab, e])
    · exact .inl hab
  · rintro (h | h) e
    · exact h (List.cons.inj e).1
    · exact h (List.cons.inj e).2
/-- what stands at another place is as it was -/
theorem at_else : ∀ (l m : List ByteArray) (N : Nat) (t x r : S26), Okt N t → putS l t x = (r, 0) → l.take (min l.length m.length) ≠ m.take (min l.length m.length) → atS m r = atS m t := by
  intro l
  induction l with
  | nil => intro m N t x r hO hp hne; simp at hne
  | cons a l ih =>
    intro m N t x r hO hp hne
    cases m with
    | nil => simp at hne
    | cons b m =>
      rw [take_min_cons] at hne
      obtain ⟨hs, -⟩ := OktS hO
      have hL := OktL hO
      have h2 : t.f0 = 2 := by
        by_cases h : t.f0 = 2
        · exact h
        · rw [putS, if_pos h] at hp
          have := (Prod.mk.inj hp).2
          simp at this
      cases hh : hasS t.f3 a with
      | true =>
        obtain ⟨ha1, ha2⟩ := has_get hh
        obtain ⟨⟨r1, k⟩, hr⟩ : ∃ q, putS l (t.f4.getD (posS t.f3 a) dir0) x = q := ⟨_, rfl⟩
        have hk : k = 0 := by
          by_cases hk : k = 0
          · exact hk
          · rw [putS_err_t h2 hh rfl hr hk] at hp; exact absurd (Prod.mk.inj hp).2 hk
        subst hk
        rw [putS_ok_t h2 hh rfl hr] at hp
        have he := (Prod.mk.inj hp).1
        subst he
        rw [atS, atS]
        cases hb : hasS t.f3 b with
        | false => rw [if_neg (by simp), if_neg (by simp)]
        | true =>
          rw [if_pos rfl, if_pos rfl]
          obtain ⟨hb1, hb2⟩ := has_get hb
          show atS m ((t.f4.set (posS t.f3 a) r1).getD (posS t.f3 b) dir0) = _
          by_cases hpp : posS t.f3 a = posS t.f3 b
          · have hab : a = b := by rw [← ha2, ← hb2]; simp only [hpp]
            have hin : posS t.f3 b < t.f4.length := by omega
            rw [hpp, List.getD_eq_getElem?_getD, List.getElem?_set_self hin, Option.getD_some]
            rw [hpp] at hr
            have hmem : t.f4.getD (posS t.f3 b) dir0 ∈ t.f4 := by rw [List.getD_eq_getElem?_getD, List.getElem?_eq_getElem hin]; exact List.getElem_mem hin
            exact ih m N _ x r1 (Okt_kid hO hmem) hr (by rcases hne with h | h; exact absurd hab h; exact h)
          · rw [List.getD_eq_getElem?_getD, List.getElem?_set_ne hpp, ← List.getD_eq_getElem?_getD]
      | false =>
        obtain ⟨⟨r1, k⟩, hr⟩ : ∃ q, putS l dir0 x = q := ⟨_, rfl⟩
        have hk : k = 0 := by
          by_cases hk : k = 0
          · exact hk
          · rw [putS_err_f h2 hh hr hk] at hp; exact absurd (Prod.mk.inj hp).2 hk
        subst hk
        rw [putS_ok_f h2 hh hr] at hp
        have he := (Prod.mk.inj hp).1
        subst he
        have hle := posS_le t.f3 a
        have hlen : (t.f4.take (posS t.f3 a)).length = posS t.f3 a := by rw [List.length_take]; omega
        rw [atS, atS]
        by_cases hab : b = a
        · subst hab
          obtain ⟨s1, s2⟩ := ins_same hs hh
          rw [if_pos s1, if_neg (by rw [hh]; simp)]
          show atS m ((t.f4.take (posS t.f3 b) ++ r1 :: t.f4.drop (posS t.f3 b)).getD (posS (t.f3.take (posS t.f3 b) ++ b :: t.f3.drop (posS t.f3 b)) b) dir0) = _
          rw [s2, List.getD_eq_getElem?_getD, List.getElem?_append_right (by omega), hlen, Nat.sub_self]
          show atS m r1 = (z0, 7)
          have h9 : l.take (min l.length m.length) ≠ m.take (min l.length m.length) := by rcases hne with h | h; exact absurd rfl h; exact h
          rw [ih m 1 dir0 x r1 Okt_dir0 hr h9]
          cases m with
          | nil => simp at h9
          | cons c m => rw [atS, if_neg (by simp [hasS, dir0])]
        · obtain ⟨o1, o2⟩ := ins_other hs hh hab
          show (if hasS (t.f3.take (posS t.f3 a) ++ a :: t.f3.drop (posS t.f3 a)) b = true then atS m ((t.f4.take (posS t.f3 a) ++ r1 :: t.f4.drop (posS t.f3 a)).getD (posS (t.f3.take (posS t.f3 a) ++ a :: t.f3.drop (posS t.f3 a)) b) dir0) else (z0, 7)) = _
          rw [o1]
          cases hb : hasS t.f3 b with
          | false => rw [if_neg (by simp), if_neg (by simp)]
          | true =>
            rw [if_pos rfl, if_pos rfl, o2 hb]
            congr 1
            rw [List.getD_eq_getElem?_getD, List.getD_eq_getElem?_getD]
            congr 1
            by_cases h5 : posS t.f3 b < posS t.f3 a
            · rw [if_pos h5, List.getElem?_append_left (by omega), List.getElem?_take, if_pos h5]
            · rw [if_neg h5, List.getElem?_append_right (by omega), hlen, show posS t.f3 b + 1 - posS t.f3 a = (posS t.f3 b - posS t.f3 a) + 1 by omega, List.getElem?_cons_succ, List.getElem?_drop, show posS t.f3 a + (posS t.f3 b - posS t.f3 a) = posS t.f3 b by omega]
theorem PutS_inv {N M : Nat} {t x r : S26} {p : ByteArray} (h : PutS N M t p x = (r, 0)) :
    (chk N t 1 0).1 = 0 ∧ (chk M x 1 0).1 = 0 ∧ (partsS p).all isE = true ∧ putS (partsS p) t x = (r, 0) ∧ (chk (N + M + (partsS p).length + 1) r 1 0).1 = 0 := by
  unfold PutS at h
  by_cases h1 : (chk N t 1 0).1 = 0
  · rw [if_neg (by simpa using h1)] at h
    by_cases h2 : (chk M x 1 0).1 = 0
    · rw [if_neg (by simpa using h2)] at h
      cases h3 : (partsS p).all isE with
      | false => rw [if_pos h3] at h; have := (Prod.mk.inj h).2; simp at this
      | true =>
        rw [if_neg (by rw [h3]; simp)] at h
        obtain ⟨⟨r1, k⟩, hr⟩ : ∃ q, putS (partsS p) t x = q := ⟨_, rfl⟩
        rw [hr] at h ⊢
        simp only at h
        by_cases hk : k = 0
        · subst hk
          rw [if_neg (by simp)] at h
          by_cases h5 : (chk (N + M + (partsS p).length + 1) r1 1 0).1 = 0
          · rw [if_neg (by simpa using h5)] at h
            have he := (Prod.mk.inj h).1
            subst he
            exact ⟨h1, h2, rfl, rfl, h5⟩
          · rw [if_pos h5] at h; exact absurd (Prod.mk.inj h).2 h5
        · rw [if_pos hk] at h; exact absurd (Prod.mk.inj h).2 hk
    · rw [if_pos h2] at h; exact absurd (Prod.mk.inj h).2 h2
  · rw [if_pos h1] at h; exact absurd (Prod.mk.inj h).2 h1
theorem AtS_else {N M : Nat} {t x r : S26} {p o : ByteArray} (hG : GT N t) (h : PutS N M t p x = (r, 0)) (hne : (partsS p).take (min (partsS p).length (partsS o).length) ≠ (partsS o).take (min (partsS p).length (partsS o).length)) :
    AtS (N + M + (partsS p).length + 1) r o = AtS N t o := by
  obtain ⟨h1, h2, h3, h4, h5⟩ := PutS_inv h
  unfold AtS
  rw [h1, h5, if_neg (show ¬ ((0 : Int) ≠ 0) by simp), if_neg (show ¬ ((0 : Int) ≠ 0) by simp), at_else (partsS p) (partsS o) N t x r (chk_okt N t 1 0 hG (by omega) h1) h4 hne]
end Go.Proofs.YtfnofjcdaghniaaDoor.Tree
/- boxes of one's own. Own work. -/
namespace Go.Proofs.YtfnofjcdaghniaaDoor.Tree
set_option linter.unusedVariables false
set_option linter.unusedSimpArgs false
open Go.RowKit Go.Proofs.YtfnofjcdaghniaaDoor.PL Go.Proofs.YtfnofjcdaghniaaDoor.Mt Go.Proofs.YtfnofjcdaghniaaDoorW.PrintWords Go.Proofs.YtfnofjcdaghniaaDoorW.PrintLast Go.Proofs.YtfnofjcdaghniaaDoorW.PrintMore
/-- boxes of one's own -/
structure BX (w wr : World) (L : List (Nat × Array Value)) : Prop where
  bel : Below w.heap.size w wr
  is : ∀ x ∈ L, w.heap.size ≤ x.1 ∧ wr.heap[x.1]? = some (.cells x.2 26 (0, 0))
theorem BX.nil {w wr : World} (h : Below w.heap.size w wr) : BX w wr [] := ⟨h, fun x hx => by simp at hx⟩
theorem BX.step {w wr w2 : World} {L : List (Nat × Array Value)} (h : BX w wr L) (hb : Below wr.heap.size wr w2) : BX w w2 L :=
  ⟨below_then h.bel h.bel.size hb, fun x hx => ⟨(h.is x hx).1, (hb.block _ (blk_lt (h.is x hx).2)).trans (h.is x hx).2⟩⟩
theorem BX.new {w wr : World} {L : List (Nat × Array Value)} (h : BX w wr L) (hl : w.heap.size ≤ wr.heap.size) (cs : Array Value) : BX w (wr.alloc (.cells cs 26)) ((wr.heap.size, cs) :: L) := by
  have hs := h.step (below_alloc (Below.refl _ wr) (.cells cs 26))
  refine ⟨hs.bel, fun x hx => ?_⟩
  rcases List.mem_cons.1 hx with rfl | hx
  · exact ⟨hl, heap_alloc_new wr _⟩
  · exact hs.is x hx
theorem BX.g0 {w wr : World} {a : Nat} {cs : Array Value} {L : List (Nat × Array Value)} (h : BX w wr ((a, cs) :: L)) : wr.heap[a]? = some (.cells cs 26 (0, 0)) := (h.is (a, cs) (List.mem_cons_self ..)).2
theorem BX.g1 {w wr : World} {a : Nat} {cs : Array Value} {x : Nat × Array Value} {L : List (Nat × Array Value)} (h : BX w wr (x :: (a, cs) :: L)) : wr.heap[a]? = some (.cells cs 26 (0, 0)) := (h.is (a, cs) (List.mem_cons_of_mem _ (List.mem_cons_self ..))).2
theorem BX.g2 {w wr : World} {a : Nat} {cs : Array Value} {x y : Nat × Array Value} {L : List (Nat × Array Value)} (h : BX w wr (x :: y :: (a, cs) :: L)) : wr.heap[a]? = some (.cells cs 26 (0, 0)) := (h.is (a, cs) (List.mem_cons_of_mem _ (List.mem_cons_of_mem _ (List.mem_cons_self ..)))).2
theorem atS_GT : ∀ (l : List ByteArray) (N : Nat) (t : S26), GT N t → Okt N t → ∃ L, GT L (atS l t).1 := by
  intro l
  induction l with
  | nil => intro N t h _; exact ⟨N, h⟩
  | cons a l ih =>
    intro N t h hO
    rw [atS]
    cases hh : hasS t.f3 a with
    | false => rw [if_neg (by simp)]; exact ⟨1, GT_z0⟩
    | true =>
      rw [if_pos rfl]
      obtain ⟨h1, -⟩ := has_get hh
      have hL := OktL hO
      have hin : posS t.f3 a < t.f4.length := by omega
      have hm : t.f4.getD (posS t.f3 a) dir0 ∈ t.f4 := by rw [List.getD_eq_getElem?_getD, List.getElem?_eq_getElem hin]; exact List.getElem_mem hin
      exact ih N _ (GT_kid h hm) (Okt_kid hO hm)
theorem AtS_GT {N : Nat} {t : S26} {p : ByteArray} (h : GT N t) : ∃ L, GT L (AtS N t p).1 := by
  unfold AtS
  by_cases h1 : (chk N t 1 0).1 = 0
  · rw [if_neg (by simpa using h1)]
    cases h3 : (partsS p).all isE with
    | false => exact ⟨1, GT_z0⟩
    | true => rw [if_neg (by simp)]; exact atS_GT _ N t h (chk_okt N t 1 0 h (by omega) h1)
  · rw [if_pos h1]; exact ⟨1, GT_z0⟩
end Go.Proofs.YtfnofjcdaghniaaDoor.Tree
/- what stands above a place that was put: plain laws. Own work. -/
namespace Go.Proofs.YtfnofjcdaghniaaDoor.Tree
set_option linter.unusedVariables false
set_option linter.unusedSimpArgs false
open Go.RowKit Go.Proofs.YtfnofjcdaghniaaDoor.PL Go.Proofs.YtfnofjcdaghniaaDoor.Mt Go.Proofs.YtfnofjcdaghniaaDoorW.PrintWords Go.Proofs.YtfnofjcdaghniaaDoorW.PrintLast Go.Proofs.YtfnofjcdaghniaaDoorW.PrintMore
theorem PutS_GT {N M : Nat} {t x r : S26} {p : ByteArray} (hG : GT N t) (hX : GT M x) (h : PutS N M t p x = (r, 0)) : GT (N + M + (partsS p).length + 1) r := by
  obtain ⟨h1, h2, h3, h4, h5⟩ := PutS_inv h
  have h6 := put_GT (partsS p) N N M (N + M + (partsS p).length + 1) t x hG (chk_okt N t 1 0 hG (by omega) h1) hX (fun n hn => isE_size (List.all_eq_true.1 h3 n hn)) (by omega)
  rw [h4] at h6
  exact h6
theorem at_above : ∀ (l : List ByteArray) (N : Nat) (t x r : S26), Okt N t → putS l t x = (r, 0) → ∀ m, m < l.length → ∃ y, atS (l.take m) r = (y, 0) ∧ y.f0 = 2 := by
  intro l
  induction l with
  | nil => intro N t x r hO hp m hm; simp at hm
  | cons a l ih =>
    intro N t x r hO hp m hm
    have h2 : t.f0 = 2 := by
      by_cases h : t.f0 = 2
      · exact h
      · rw [putS, if_pos h] at hp
        have := (Prod.mk.inj hp).2
        simp at this
    obtain ⟨hs, -⟩ := OktS hO
    have hL := OktL hO
    cases hh : hasS t.f3 a with
    | true =>
      obtain ⟨ha1, ha2⟩ := has_get hh
      obtain ⟨⟨r1, k⟩, hr⟩ : ∃ q, putS l (t.f4.getD (posS t.f3 a) dir0) x = q := ⟨_, rfl⟩
      have hk : k = 0 := by
        by_cases hk : k = 0
        · exact hk
        · rw [putS_err_t h2 hh rfl hr hk] at hp; exact absurd (Prod.mk.inj hp).2 hk
      subst hk
      rw [putS_ok_t h2 hh rfl hr] at hp
      have he := (Prod.mk.inj hp).1
      subst he
      cases m with
      | zero => exact ⟨_, rfl, h2⟩
      | succ m =>
        have hin : posS t.f3 a < t.f4.length := by omega
        have hmem : t.f4.getD (posS t.f3 a) dir0 ∈ t.f4 := by rw [List.getD_eq_getElem?_getD, List.getElem?_eq_getElem hin]; exact List.getElem_mem hin
        rw [List.take_succ_cons, atS, if_pos hh]
        show ∃ y, atS (l.take m) ((t.f4.set (posS t.f3 a) r1).getD (posS t.f3 a) dir0) = (y, 0) ∧ y.f0 = 2
        rw [List.getD_eq_getElem?_getD, List.getElem?_set_self hin, Option.getD_some]
        exact ih N _ x r1 (Okt_kid hO hmem) hr m (by simp at hm; omega)
    | false =>
      obtain ⟨⟨r1, k⟩, hr⟩ : ∃ q, putS l dir0 x = q := ⟨_, rfl⟩
      have hk : k = 0 := by
        by_cases hk : k = 0
        · exact hk
        · rw [putS_err_f h2 hh hr hk] at hp; exact absurd (Prod.mk.inj hp).2 hk
      subst hk
      rw [putS_ok_f h2 hh hr] at hp
      have he := (Prod.mk.inj hp).1
      subst he
      cases m with
      | zero => exact ⟨_, rfl, h2⟩
      | succ m =>
        have hle := posS_le t.f3 a
        have hlen : (t.f4.take (posS t.f3 a)).length = posS t.f3 a := by rw [List.length_take]; omega
        obtain ⟨s1, s2⟩ := ins_same hs hh
        rw [List.take_succ_cons, atS, if_pos s1]
        show ∃ y, atS (l.take m) ((t.f4.take (posS t.f3 a) ++ r1 :: t.f4.drop (posS t.f3 a)).getD (posS (t.f3.take (posS t.f3 a) ++ a :: t.f3.drop (posS t.f3 a)) a) dir0) = (y, 0) ∧ y.f0 = 2
        rw [s2, List.getD_eq_getElem?_getD, List.getElem?_append_right (by omega), hlen, Nat.sub_self]
        show ∃ y, atS (l.take m) r1 = (y, 0) ∧ y.f0 = 2
        exact ih 1 dir0 x r1 Okt_dir0 hr m (by simp at hm; omega)
theorem scanL_pos (L acc : List UInt8) : 0 < (scanL L acc).length := by
  cases L with
  | nil => simp [scanL]
  | cons c r =>
    rw [scanL]
    split
    · simp
    · induction r generalizing acc c with
      | nil => simp [scanL]
      | cons d r ih =>
        rw [scanL]
        split
        · simp
        · exact ih _ _ (by assumption)
theorem scan_take : ∀ (L acc : List UInt8) (j : Nat), L[j]? = some 47 → ∃ m, m < (scanL L acc).length ∧ scanL (L.take j) acc = (scanL L acc).take m := by
  intro L
  induction L with
  | nil => intro acc j h; simp at h
  | cons c r ih =>
    intro acc j h
    cases j with
    | zero =>
      have hc : c = 47 := by simpa using h
      refine ⟨1, ?_, ?_⟩
      · rw [scanL, if_pos hc, List.length_cons]; have := scanL_pos r []; omega
      · rw [scanL.eq_def (c :: r), List.take_zero]
        simp only
        rw [if_pos hc]; rfl
    | succ j =>
      have h1 : r[j]? = some 47 := by simpa using h
      rw [List.take_succ_cons]
      by_cases hc : c = 47
      · obtain ⟨m, hm, he⟩ := ih [] j h1
        refine ⟨m + 1, ?_, ?_⟩
        · rw [scanL, if_pos hc, List.length_cons]; omega
        · rw [scanL, if_pos hc, scanL, if_pos hc, List.take_succ_cons, he]
      · obtain ⟨m, hm, he⟩ := ih (acc ++ [c]) j h1
        refine ⟨m, ?_, ?_⟩
        · rw [scanL, if_neg hc]; exact hm
        · rw [scanL, if_neg hc, scanL, if_neg hc, he]
theorem parts_scan {s : ByteArray} (h : s.size ≠ 0) : (partsS s).map (fun b => b.data.toList) = scanL s.data.toList [] := by
  unfold partsS
  rw [if_neg h]
  exact split_scan _ s rfl
theorem parts_prefix {s : ByteArray} {j : Nat} (hj : s.data.toList[j]? = some 47) : ∃ m, m < (partsS s).length ∧ partsS (s.extract 0 j) = (partsS s).take m := by
  have hlt : j < s.data.toList.length := (List.getElem?_eq_some_iff.1 hj).1
  rw [size_data] at hlt
  have h0 : s.size ≠ 0 := by omega
  have hp := parts_scan h0
  have hL : (partsS s).length = (scanL s.data.toList []).length := by rw [← hp, List.length_map]
  by_cases hz : j = 0
  · subst hz
    refine ⟨0, by rw [hL]; exact scanL_pos _ _, ?_⟩
    unfold partsS
    rw [if_pos (by simp)]; rfl
  · have e1 : (s.extract 0 j).data.toList = s.data.toList.take j := by simp
    have e2 : (s.extract 0 j).size ≠ 0 := by
      rw [← size_data, e1, List.length_take, size_data]; omega
    obtain ⟨m, hm, he⟩ := scan_take s.data.toList [] j hj
    refine ⟨m, by omega, ?_⟩
    have h3 := parts_scan e2
    rw [e1, he, ← hp, ← List.map_take] at h3
    exact List.map_inj_right (fun a b h => by
      cases a; cases b
      simp only at h
      exact congrArg ByteArray.mk (Array.toList_inj.1 h)) |>.1 h3
theorem AtS_above {N M : Nat} {t x r : S26} {p : ByteArray} {j : Nat} (hG : GT N t) (h : PutS N M t p x = (r, 0)) (hj : p.data.toList[j]? = some 47) :
    ∃ y, AtS (N + M + (partsS p).length + 1) r (p.extract 0 j) = (y, 0) ∧ y.f0 = 2 := by
  obtain ⟨h1, h2, h3, h4, h5⟩ := PutS_inv h
  obtain ⟨m, hm, he⟩ := parts_prefix hj
  obtain ⟨y, hy, hy2⟩ := at_above (partsS p) N t x r (chk_okt N t 1 0 hG (by omega) h1) h4 m hm
  refine ⟨y, ?_, hy2⟩
  unfold AtS
  rw [h5, if_neg (show ¬ ((0 : Int) ≠ 0) by simp), he, if_neg, hy]
  have : ((partsS p).take m).all isE = true := List.all_eq_true.2 (fun s hs => List.all_eq_true.1 h3 s (List.mem_of_mem_take hs))
  rw [this]; simp
end Go.Proofs.YtfnofjcdaghniaaDoor.Tree
/- a tree that may be written over: its shape alone, and what keeps it. Own work. -/
namespace Go.Proofs.YtfnofjcdaghniaaDoor.Tree
set_option linter.unusedVariables false
set_option linter.unusedSimpArgs false
open Go.RowKit Go.Proofs.YtfnofjcdaghniaaDoor.PL Go.Proofs.YtfnofjcdaghniaaDoor.Mt Go.Proofs.YtfnofjcdaghniaaDoorW.PrintWords Go.Proofs.YtfnofjcdaghniaaDoorW.PrintLast Go.Proofs.YtfnofjcdaghniaaDoorW.PrintMore
def ZL : List Value := [.int .i64 (-1), .bool false, .slice none 0 0, .slice none 0 0, .slice none 0 0]
/-- a block's cells keep their kinds -/
structure TyB (cs cs' : Array Value) (ty : Nat) : Prop where
  size : cs'.size = cs.size
  b : ty = 5 → ∀ (i : Nat) (x : Int), cs[i]? = some (.int .u8 x) → ∃ y, cs'[i]? = some (.int .u8 y)
  s : ty = 9 → ∀ (i : Nat) (x : ByteArray), cs[i]? = some (.string x) → ∃ y, cs'[i]? = some (.string y)
  t : ty = 26 → ∀ i : Nat, (∀ j, j < 5 → cs'[i * 5 + j]? = cs[i * 5 + j]?) ∨ (∀ j, j < 5 → cs'[i * 5 + j]? = ZL[j]?)
theorem TyB.refl (cs : Array Value) (ty : Nat) : TyB cs cs ty := ⟨rfl, fun _ i x h => ⟨x, h⟩, fun _ i x h => ⟨x, h⟩, fun _ i => .inl fun _ _ => rfl⟩
theorem TyB.trans {a b c : Array Value} {ty : Nat} (h : TyB a b ty) (k : TyB b c ty) : TyB a c ty := by
  refine ⟨k.size.trans h.size, fun e i x hx => ?_, fun e i x hx => ?_, fun e i => ?_⟩
  · obtain ⟨y, hy⟩ := h.b e i x hx; exact k.b e i y hy
  · obtain ⟨y, hy⟩ := h.s e i x hx; exact k.s e i y hy
  · rcases k.t e i with h1 | h1
    · rcases h.t e i with h2 | h2
      · exact .inl fun j hj => (h1 j hj).trans (h2 j hj)
      · exact .inr fun j hj => (h1 j hj).trans (h2 j hj)
    · exact .inr h1
/-- outside [lo, hi) nothing is changed, inside no cell's kind -/
structure Ty (lo hi : Nat) (w w' : World) : Prop where
  os : w'.os = w.os
  tape : w'.tape = w.tape
  output : w'.output = w.output
  size : w.heap.size ≤ w'.heap.size
  out : ∀ k, k < w.heap.size → (k < lo ∨ hi ≤ k) → w'.heap[k]? = w.heap[k]?
  in_ : ∀ (k ty : Nat) (cs : Array Value), lo ≤ k → k < hi → w.heap[k]? = some (.cells cs ty (0, 0)) → ∃ cs', w'.heap[k]? = some (.cells cs' ty (0, 0)) ∧ TyB cs cs' ty
theorem Ty.of_below {lo hi : Nat} {w w' : World} (h : Below w.heap.size w w') : Ty lo hi w w' :=
  ⟨h.os, h.tape, h.output, h.size, fun k hk _ => h.block k hk, fun k ty cs _ _ hb => ⟨cs, (h.block k (blk_lt hb)).trans hb, TyB.refl _ _⟩⟩
theorem Ty.refl (lo hi : Nat) (w : World) : Ty lo hi w w := Ty.of_below (Below.refl _ w)
theorem Ty.trans {lo hi : Nat} {a b c : World} (h : Ty lo hi a b) (k : Ty lo hi b c) : Ty lo hi a c := by
  refine ⟨k.os.trans h.os, k.tape.trans h.tape, k.output.trans h.output, Nat.le_trans h.size k.size, fun i hi' ho => (k.out i (Nat.lt_of_lt_of_le hi' h.size) ho).trans (h.out i hi' ho), fun i ty cs h1 h2 hb => ?_⟩
  obtain ⟨cs', hb', t1⟩ := h.in_ i ty cs h1 h2 hb
  obtain ⟨cs'', hb'', t2⟩ := k.in_ i ty cs' h1 h2 hb'
  exact ⟨cs'', hb'', t1.trans t2⟩
theorem Ty.below {lo hi : Nat} {w w' : World} (h : Ty lo hi w w') (hl : lo ≤ w.heap.size) : Below lo w w' :=
  ⟨h.os, h.tape, h.output, h.size, fun k hk => h.out k (by omega) (.inl hk)⟩
/-- one cell inside is written -/
theorem Ty.set {lo hi : Nat} {w : World} {g o ty : Nat} {cur : Array Value} {v : Value} (hb : w.heap[g]? = some (.cells cur ty (0, 0))) (hl : lo ≤ g) (hh : g < hi) (ht : TyB cur (cur.setIfInBounds o v) ty) : Ty lo hi w (w.setCell ⟨g, o, none⟩ v) := by
  refine ⟨rfl, rfl, rfl, by simp [World.setCell], fun k hk ho => Below.heap_setCell w ⟨g, o, none⟩ v k (by rintro rfl; omega), fun k ty' cs h1 h2 hb' => ?_⟩
  by_cases hk : k = g
  · subst hk
    rw [hb] at hb'
    injection hb' with e
    injection e with e1 e2 e3
    subst e1 e2
    exact ⟨_, blk_set hb o v, ht⟩
  · exact ⟨cs, blk_far hb' hk v, TyB.refl _ _⟩
theorem TyB.byte {cur : Array Value} {o : Nat} {x y : Int} (h : cur[o]? = some (.int .u8 x)) : TyB cur (cur.setIfInBounds o (.int .u8 y)) 5 := by
  have ho : o < cur.size := (Array.getElem?_eq_some_iff.1 h).1
  refine ⟨by simp, fun _ i z hz => ?_, fun e => absurd e (by decide), fun e => absurd e (by decide)⟩
  rw [Array.getElem?_setIfInBounds]
  by_cases hi : o = i
  · rw [if_pos hi, if_pos ho]; exact ⟨y, rfl⟩
  · rw [if_neg hi]; exact ⟨z, hz⟩
theorem TyB.str {cur : Array Value} {o : Nat} {x y : ByteArray} (h : cur[o]? = some (.string x)) : TyB cur (cur.setIfInBounds o (.string y)) 9 := by
  have ho : o < cur.size := (Array.getElem?_eq_some_iff.1 h).1
  refine ⟨by simp, fun e => absurd e (by decide), fun _ i z hz => ?_, fun e => absurd e (by decide)⟩
  rw [Array.getElem?_setIfInBounds]
  by_cases hi : o = i
  · rw [if_pos hi, if_pos ho]; exact ⟨y, rfl⟩
  · rw [if_neg hi]; exact ⟨z, hz⟩
/-- the five stores of an empty tree -/
def zset (cur : Array Value) (i : Nat) : Array Value := ((((cur.setIfInBounds (i * 5) (.int .i64 (-1))).setIfInBounds (i * 5 + 1) (.bool false)).setIfInBounds (i * 5 + 2) (.slice none 0 0)).setIfInBounds (i * 5 + 3) (.slice none 0 0)).setIfInBounds (i * 5 + 4) (.slice none 0 0)
theorem zset_in {cur : Array Value} {i : Nat} (h : i * 5 + 4 < cur.size) : ∀ j, j < 5 → (zset cur i)[i * 5 + j]? = ZL[j]? := by
  intro j hj
  unfold zset
  match j, hj with
  | 0, _ => simp [Array.getElem?_setIfInBounds, ZL]; omega
  | 1, _ => simp [Array.getElem?_setIfInBounds, ZL]; omega
  | 2, _ => simp [Array.getElem?_setIfInBounds, ZL]; omega
  | 3, _ => simp [Array.getElem?_setIfInBounds, ZL]; omega
  | 4, _ => simp [Array.getElem?_setIfInBounds, ZL]; omega
theorem zset_out {cur : Array Value} {i k : Nat} (h : k < i * 5 ∨ i * 5 + 5 ≤ k) : (zset cur i)[k]? = cur[k]? := by
  unfold zset
  rw [Array.getElem?_setIfInBounds_ne (by omega), Array.getElem?_setIfInBounds_ne (by omega), Array.getElem?_setIfInBounds_ne (by omega), Array.getElem?_setIfInBounds_ne (by omega), Array.getElem?_setIfInBounds_ne (by omega)]
theorem TyB.zero {cur : Array Value} {i : Nat} (h : i * 5 + 4 < cur.size) : TyB cur (zset cur i) 26 := by
  refine ⟨by simp [zset], fun e => absurd e (by decide), fun e => absurd e (by decide), fun _ k => ?_⟩
  by_cases hk : k = i
  · subst hk; exact .inr (zset_in h)
  · exact .inl fun j hj => zset_out (by omega)
abbrev zworld (w : World) (g i : Nat) : World := ((((w.setCell ⟨g, i * 5, none⟩ (.int .i64 (-1))).setCell ⟨g, i * 5 + 1, none⟩ (.bool false)).setCell ⟨g, i * 5 + 2, none⟩ (.slice none 0 0)).setCell ⟨g, i * 5 + 3, none⟩ (.slice none 0 0)).setCell ⟨g, i * 5 + 4, none⟩ (.slice none 0 0)
theorem blk_zset {w : World} {g i : Nat} {cur : Array Value} (hb : w.heap[g]? = some (.cells cur 26 (0, 0))) : (zworld w g i).heap[g]? = some (.cells (zset cur i) 26 (0, 0)) :=
  blk_set (blk_set (blk_set (blk_set (blk_set hb _ _) _ _) _ _) _ _) _ _
theorem Ty.zero {lo hi : Nat} {w : World} {g i : Nat} {cur : Array Value} (hb : w.heap[g]? = some (.cells cur 26 (0, 0))) (hl : lo ≤ g) (hh : g < hi) (h : i * 5 + 4 < cur.size) : Ty lo hi w (zworld w g i) := by
  have st : ∀ (W : World) (j : Nat) (v : Value) (k : Nat), k ≠ g → (W.setCell ⟨g, j, none⟩ v).heap[k]? = W.heap[k]? := fun W j v k hk => Below.heap_setCell W ⟨g, j, none⟩ v k hk
  have far : ∀ k, k ≠ g → (zworld w g i).heap[k]? = w.heap[k]? := fun k hk => by
    rw [st _ _ _ k hk, st _ _ _ k hk, st _ _ _ k hk, st _ _ _ k hk, st _ _ _ k hk]
  refine ⟨by simp [zworld, World.setCell], by simp [zworld, World.setCell], by simp [zworld, World.setCell], by simp [zworld, World.setCell], fun k hk ho => far k (by rintro rfl; omega), fun k ty' cs h1 h2 hb' => ?_⟩
  by_cases hk : k = g
  · subst hk
    rw [hb] at hb'
    injection hb' with e
    injection e with e1 e2 e3
    subst e1 e2
    exact ⟨_, blk_zset hb, TyB.zero h⟩
  · exact ⟨cs, (far k hk).trans hb', TyB.refl _ _⟩
/-- facts for the five stores -/
theorem zfacts {w : World} {g i : Nat} {cur : Array Value} (hb : w.heap[g]? = some (.cells cur 26 (0, 0))) (hlt : i * 5 + 4 < cur.size) (x0 x1 x2 x3 x4 : Value) :
    (∃ c0, w.cell? ⟨g, i * 5, none⟩ = some c0 ∧ w.frozen? ⟨g, i * 5, none⟩ = false) ∧ (∃ c1, (w.setCell ⟨g, i * 5, none⟩ x0).cell? ⟨g, i * 5 + 1, none⟩ = some c1 ∧ (w.setCell ⟨g, i * 5, none⟩ x0).frozen? ⟨g, i * 5 + 1, none⟩ = false) ∧ (∃ c2, ((w.setCell ⟨g, i * 5, none⟩ x0).setCell ⟨g, i * 5 + 1, none⟩ x1).cell? ⟨g, i * 5 + 2, none⟩ = some c2 ∧ ((w.setCell ⟨g, i * 5, none⟩ x0).setCell ⟨g, i * 5 + 1, none⟩ x1).frozen? ⟨g, i * 5 + 2, none⟩ = false) ∧ (∃ c3, (((w.setCell ⟨g, i * 5, none⟩ x0).setCell ⟨g, i * 5 + 1, none⟩ x1).setCell ⟨g, i * 5 + 2, none⟩ x2).cell? ⟨g, i * 5 + 3, none⟩ = some c3 ∧ (((w.setCell ⟨g, i * 5, none⟩ x0).setCell ⟨g, i * 5 + 1, none⟩ x1).setCell ⟨g, i * 5 + 2, none⟩ x2).frozen? ⟨g, i * 5 + 3, none⟩ = false) ∧ (∃ c4, ((((w.setCell ⟨g, i * 5, none⟩ x0).setCell ⟨g, i * 5 + 1, none⟩ x1).setCell ⟨g, i * 5 + 2, none⟩ x2).setCell ⟨g, i * 5 + 3, none⟩ x3).cell? ⟨g, i * 5 + 4, none⟩ = some c4 ∧ ((((w.setCell ⟨g, i * 5, none⟩ x0).setCell ⟨g, i * 5 + 1, none⟩ x1).setCell ⟨g, i * 5 + 2, none⟩ x2).setCell ⟨g, i * 5 + 3, none⟩ x3).frozen? ⟨g, i * 5 + 4, none⟩ = false) := by
  have b1 := blk_set hb (i * 5) x0
  have b2 := blk_set b1 (i * 5 + 1) x1
  have b3 := blk_set b2 (i * 5 + 2) x2
  have b4 := blk_set b3 (i * 5 + 3) x3
  exact ⟨cell_ex hb (by omega), cell_ex b1 (by simp; omega), cell_ex b2 (by simp; omega), cell_ex b3 (by simp; omega), cell_ex b4 (by simp; omega)⟩
/-- a row inside -/
def RowT (w : World) (lo hi ty : Nat) (A : Option Addr) (n : Nat) (P : Array Value → Nat → Prop) : Prop :=
  n ≤ 1000000000000000 ∧ (0 < n → ∃ g cur, A = some ⟨g, 0, none⟩ ∧ lo ≤ g ∧ g < hi ∧ w.heap[g]? = some (.cells cur ty (0, 0)) ∧ ∀ i, i < n → P cur i)
def PB (cur : Array Value) (i : Nat) : Prop := ∃ x : Int, cur[i]? = some (.int .u8 x)
def PS (cur : Array Value) (i : Nat) : Prop := ∃ x : ByteArray, cur[i]? = some (.string x)
/-- the shape of a tree whose rows lie inside -/
def Sh : Nat → World → Nat → Nat → List Value → Prop
  | 0, _, _, _, _ => False
  | N + 1, w, lo, hi, cs => ∃ (k : Int) (b : Bool) (A2 : Option Addr) (n2 c2 : Nat) (A3 : Option Addr) (n3 c3 : Nat) (A4 : Option Addr) (n4 c4 : Nat),
      cs = [.int .i64 k, .bool b, .slice A2 n2 c2, .slice A3 n3 c3, .slice A4 n4 c4] ∧ RowT w lo hi 5 A2 n2 PB ∧ RowT w lo hi 9 A3 n3 PS ∧
      RowT w lo hi 26 A4 n4 (fun cur i => i * 5 + 4 < cur.size ∧ ∃ ds : List Value, (∀ j, j < 5 → cur[i * 5 + j]? = ds[j]?) ∧ Sh N w lo hi ds)
theorem RowT.nil (w : World) (lo hi ty : Nat) (A : Option Addr) (P : Array Value → Nat → Prop) : RowT w lo hi ty A 0 P := ⟨by omega, fun h => absurd h (by omega)⟩
theorem Sh.zero (N : Nat) (w : World) (lo hi : Nat) : Sh (N + 1) w lo hi ZL := ⟨-1, false, none, 0, 0, none, 0, 0, none, 0, 0, rfl, RowT.nil _ _ _ _ _ _, RowT.nil _ _ _ _ _ _, RowT.nil _ _ _ _ _ _⟩
theorem RowT.ty {w w' : World} {lo hi ty : Nat} {A : Option Addr} {n : Nat} {P P' : Array Value → Nat → Prop} (h : RowT w lo hi ty A n P) (ht : Ty lo hi w w') (hP : ∀ cur cur' i, i < n → TyB cur cur' ty → P cur i → P' cur' i) : RowT w' lo hi ty A n P' := by
  refine ⟨h.1, fun h0 => ?_⟩
  obtain ⟨g, cur, e, hl, hh, hb, hp⟩ := h.2 h0
  obtain ⟨cur', hb', hty⟩ := ht.in_ g ty cur hl hh hb
  exact ⟨g, cur', e, hl, hh, hb', fun i hi => hP cur cur' i hi hty (hp i hi)⟩
theorem Sh.ty : ∀ {N : Nat} {w w' : World} {lo hi : Nat} {cs : List Value}, Sh N w lo hi cs → Ty lo hi w w' → Sh N w' lo hi cs := by
  intro N
  induction N with
  | zero => intro w w' lo hi cs h; exact h.elim
  | succ N ih =>
    intro w w' lo hi cs h ht
    obtain ⟨k, b, A2, n2, c2, A3, n3, c3, A4, n4, c4, rfl, r2, r3, r4⟩ := h
    refine ⟨k, b, A2, n2, c2, A3, n3, c3, A4, n4, c4, rfl, r2.ty ht (fun cur cur' i hi h1 ⟨x, hx⟩ => h1.b rfl i x hx), r3.ty ht (fun cur cur' i hi h1 ⟨x, hx⟩ => h1.s rfl i x hx), r4.ty ht (fun cur cur' i hi h1 ⟨hsz, ds, hd, hs⟩ => ?_)⟩
    refine ⟨by rw [h1.size]; exact hsz, ?_⟩
    rcases h1.t rfl i with h2 | h2
    · exact ⟨ds, fun j hj => (h2 j hj).trans (hd j hj), ih hs ht⟩
    · cases N with
      | zero => exact hs.elim
      | succ N => exact ⟨ZL, h2, Sh.zero _ _ _ _⟩
theorem RowT.of_own {w : World} {base ty sz : Nat} {v : Value} {n c : Nat} {A : Option Addr} {xs : List Value} {P : Array Value → Nat → Prop} (h : w.ownsRow base ty sz (.slice A n c) n xs) (hn : n ≤ 1000000000000000) (hP : ∀ cur : Array Value, n * sz ≤ cur.size → cur.toList.take (n * sz) = xs → ∀ i, i < n → P cur i) : RowT w base w.heap.size ty A n P := by
  refine ⟨hn, fun h0 => ?_⟩
  rcases h.2 with ⟨_, hz⟩ | ⟨g, cap, cur, e, hg, hb, h1, h2, h3, h4⟩
  · omega
  · injection e with e1 e2 e3
    refine ⟨g, cur, e1, hg, blk_lt hb, hb, hP cur (by rw [h3]; exact Nat.mul_le_mul_right _ h1) h4⟩
theorem Sh.of_M : ∀ (N : Nat) (t : S26) (w : World) (base : Nat) (ok : Nat → Prop) (cs : List Value), GT N t → k26.M w base ok t cs → Sh N w base w.heap.size cs := by
  intro N
  induction N with
  | zero => intro t w base ok cs h; exact h.elim
  | succ N ih =>
    intro t w base ok cs hG hM
    obtain ⟨v2, v3, v4, rfl, r2, r3, r4⟩ := k26_openM hM
    obtain ⟨A2, c2, rfl⟩ := Kd.R_slice r2
    obtain ⟨A3, c3, rfl⟩ := Kd.R_slice r3
    obtain ⟨A4, c4, rfl⟩ := Kd.R_slice r4
    have b2 := hG.2.1.2.1
    have b3 := hG.2.2.1.2.1
    have b4 := hG.2.2.2.2.1
    refine ⟨_, _, A2, _, c2, A3, _, c3, A4, _, c4, rfl, RowT.of_own (v := .slice none 0 0) (Kd.own_of_R r2) (by omega) (fun cur hs hx i hi => ?_), RowT.of_own (v := .slice none 0 0) (Kd.own_of_R r3) (by omega) (fun cur hs hx i hi => ?_), ?_⟩
    · refine ⟨t.f2[i], ?_⟩
      have h1 : (cur.toList.take (t.f2.length * 1))[i]? = some (.int .u8 t.f2[i]) := by rw [hx]; simp [encs, hi]
      rw [List.getElem?_take, if_pos (by omega), Array.getElem?_toList] at h1
      exact h1
    · refine ⟨t.f3[i], ?_⟩
      have h1 : (cur.toList.take (t.f3.length * 1))[i]? = some (.string t.f3[i]) := by rw [hx]; simp [encs, hi]
      rw [List.getElem?_take, if_pos (by omega), Array.getElem?_toList] at h1
      exact h1
    · obtain ⟨_, inner, hown, hr⟩ := r4
      refine RowT.of_own (v := .slice none 0 0) hown (by omega) (fun cur hs hx i hi => ?_)
      have hs5 : t.f4.length * 5 ≤ cur.size := hs
      have hx5 : cur.toList.take (t.f4.length * 5) = inner := hx
      refine ⟨by omega, (inner.drop (i * 5)).take 5, fun j hj => ?_, ih t.f4[i] w base _ _ (hG.2.2.2.2.2 _ (List.getElem_mem hi)) (hr.2 i t.f4[i] (List.getElem?_eq_getElem hi))⟩
      rw [List.getElem?_take, if_pos hj, List.getElem?_drop, ← hx5, List.getElem?_take, if_pos (by omega), Array.getElem?_toList]
theorem Sh.of_OT {N : Nat} {t : S26} {w : World} {base : Nat} {v2 v3 v4 : Value} (hG : GT N t) (h : OT w base t v2 v3 v4) : Sh N w base w.heap.size [.int .i64 t.f0, .bool t.f1, v2, v3, v4] :=
  Sh.of_M N t w base (fun _ => True) _ hG (k26_mkM w base _ t h.1 h.2.1 (Kd.R_mono h.2.2 (fun _ _ => trivial)))
end Go.Proofs.YtfnofjcdaghniaaDoor.Tree
/- spoilt, walked. Own work; printed by gen_sp.py. -/
namespace Go.Proofs.YtfnofjcdaghniaaDoor.Tree
set_option linter.unusedVariables false
set_option linter.unusedSimpArgs false
open Go.RowKit Go.Proofs.YtfnofjcdaghniaaDoor.PL Go.Proofs.YtfnofjcdaghniaaDoor.Mt Go.Proofs.YtfnofjcdaghniaaDoorW.PrintWords Go.Proofs.YtfnofjcdaghniaaDoorW.PrintLast Go.Proofs.YtfnofjcdaghniaaDoorW.PrintMore
def SPC (lo hi N : Nat) : Prop := ∀ (cs : List Value) (w : World), Sh N w lo hi cs → hi ≤ w.heap.size →
  Calls Tryd.prog 21 #[.agg cs.toArray] w fun e w' => e = .returned (.tuple #[]) ∧ Ty lo hi w w'
/-- the box and what is changed -/
structure PX (lo hi : Nat) (w wr : World) (p : Nat) (bx : Obj) : Prop where
  bp : wr.heap[p]? = some bx
  ty : Ty lo hi w wr
theorem PX.go {lo hi p : Nat} {w wr w2 : World} {bx : Obj} (h : PX lo hi w wr p bx) (hp : hi ≤ p) (t : Ty lo hi wr w2) : PX lo hi w w2 p bx := ⟨(t.out p (blk_lt h.bp) (.inr hp)).trans h.bp, h.ty.trans t⟩
theorem PX.drew {lo hi p : Nat} {w wr : World} {bx : Obj} (h : PX lo hi w wr p bx) : PX lo hi w wr.drew p bx := ⟨h.bp, h.ty.trans (Ty.of_below (below_drew (Below.refl _ wr)))⟩
set_option maxRecDepth 20000 in
set_option maxHeartbeats 4000000 in
theorem spoilt_step (lo hi N : Nat) (ih : SPC lo hi N) : SPC lo hi (N + 1) := by
  intro cs w hSh hw
  have HSH := Aside0.mk hSh
  obtain ⟨k0, b0, A2, n2, c2, A3, n3, c3, A4, n4, c4, rfl, hr2, hr3, hr4⟩ := hSh
  have l2 := hr2.1
  have l3 := hr3.1
  have l4 := hr4.1
  have HR2 := Aside0.mk hr2
  have HR3 := Aside0.mk hr3
  have HR4 := Aside0.mk hr4
  have IH := Aside0.mk ih
  have HPX : Aside0 (PX lo hi w (w.alloc (.cells #[.int .i64 k0, .bool b0, .slice A2 n2 c2, .slice A3 n3 c3, .slice A4 n4 c4] 26)) w.heap.size (.cells #[.int .i64 k0, .bool b0, .slice A2 n2 c2, .slice A3 n3 c3, .slice A4 n4 c4] 26)) := ⟨⟨heap_alloc_new w _, Ty.of_below (below_alloc (Below.refl _ w) _)⟩⟩
  clear hr2 hr3 hr4 ih
  show Calls Tryd.prog 21 #[.agg #[.int .i64 k0, .bool b0, .slice A2 n2 c2, .slice A3 n3 c3, .slice A4 n4 c4]] w _
  go_enter Tryd.func21, Tryd.ntmps21
  go_upto_region 1 with fail
  generalize (w.alloc (.cells #[.int .i64 k0, .bool b0, .slice A2 n2 c2, .slice A3 n3 c3, .slice A4 n4 c4] 26)) = w1 at *
  obtain ⟨p, hp⟩ : ∃ q, w.heap.size = q := ⟨_, rfl⟩
  rw [hp] at HPX hw ⊢
  have HHP := Aside0.mk hw
  clear hp hw
  go_wp2_with fail
  go_loopw [2] (fun v wr => ∃ i : Nat, v = .int .i64 (i : Int) ∧ i ≤ n2 ∧ Aside0 (PX lo hi w wr p (.cells #[.int .i64 k0, .bool b0, .slice A2 n2 c2, .slice A3 n3 c3, .slice A4 n4 c4] 26))) (fun v _ => n2 - (intOf v).toNat)
  case atStart => exact ⟨0, rfl, Nat.zero_le _, HPX⟩
  case round =>
    clear HPX
    obtain ⟨i, rfl, hi', HPX⟩ := hrel
    obtain ⟨x0, x1, x2, x3, x4⟩ := cells5 HPX.out.bp
    by_cases hlt : i < n2
    · have hlt' : (i : Int) < (n2 : Int) := by omega
      obtain ⟨g, cur, rfl, hl, hh, hb, hq⟩ := (HR2.out.ty HPX.out.ty (P' := PB) (fun cur cur' i hi h1 ⟨x, hx⟩ => h1.b rfl i x hx)).2 (by omega)
      obtain ⟨x, hx⟩ := hq i hlt
      have hc : wr.cell? ⟨g, i, none⟩ = some (.int .u8 x) := (blk_cell hb i).trans hx
      have hf := blk_frozen hb i
      have hbd : wr.drew.heap[g]? = some (.cells cur 5 (0, 0)) := hb
      have HS : Aside0 (∀ y : Int, PX lo hi w (wr.drew.setCell ⟨g, i, none⟩ (.int .u8 y)) p _) := ⟨fun y => HPX.out.drew.go HHP.out (Ty.set hbd hl hh (TyB.byte hx))⟩
      have hcd : wr.drew.cell? ⟨g, i, none⟩ = some (.int .u8 x) := hc
      have hfd : wr.drew.frozen? ⟨g, i, none⟩ = false := hf
      have HG := Aside0.mk (And.intro hb (And.intro hx hq))
      clear hb hx hq hbd
      go_upto_region 4 with fail
      go_still_tail 10, (by kernel_rfl)
      change wpList _ _ _ _ _ wr.drew
      go_wp2_with fail
      exact ⟨⟨i + 1, by go_num, by omega, ⟨HS.out _⟩⟩, by simp [intOf]; omega⟩
    · have hlt' : ¬ (i : Int) < (n2 : Int) := by omega
      go_wp2_with fail
      clear x0 x1 x2 x3 x4
      go_loopw [3] (fun v wr => ∃ i : Nat, v = .int .i64 (i : Int) ∧ i ≤ n3 ∧ Aside0 (PX lo hi w wr p (.cells #[.int .i64 k0, .bool b0, .slice A2 n2 c2, .slice A3 n3 c3, .slice A4 n4 c4] 26))) (fun v _ => n3 - (intOf v).toNat)
      case atStart => exact ⟨0, rfl, Nat.zero_le _, HPX⟩
      case round =>
        clear HPX
        obtain ⟨i, rfl, hi', HPX⟩ := hrel
        obtain ⟨x0, x1, x2, x3, x4⟩ := cells5 HPX.out.bp
        by_cases hlt : i < n3
        · have hlt' : (i : Int) < (n3 : Int) := by omega
          obtain ⟨g, cur, rfl, hl, hh, hb, hq⟩ := (HR3.out.ty HPX.out.ty (P' := PS) (fun cur cur' i hi h1 ⟨x, hx⟩ => h1.s rfl i x hx)).2 (by omega)
          obtain ⟨x, hx⟩ := hq i hlt
          have hc : wr.cell? ⟨g, i, none⟩ = some (.string x) := (blk_cell hb i).trans hx
          have hf := blk_frozen hb i
          have HS : Aside0 (∀ y : ByteArray, PX lo hi w (wr.setCell ⟨g, i, none⟩ (.string y)) p _) := ⟨fun y => HPX.out.go HHP.out (Ty.set hb hl hh (TyB.str hx))⟩
          have HG := Aside0.mk (And.intro hb (And.intro hx hq))
          clear hb hx hq
          go_wp2_with fail
          exact ⟨⟨i + 1, by go_num, by omega, ⟨HS.out _⟩⟩, by simp [intOf]; omega⟩
        · have hlt' : ¬ (i : Int) < (n3 : Int) := by omega
          go_wp2_with fail
          clear x0 x1 x2 x3 x4
          go_loopw [4] (fun v wr => ∃ i : Nat, v = .int .i64 (i : Int) ∧ i ≤ n4 ∧ Aside0 (PX lo hi w wr p (.cells #[.int .i64 k0, .bool b0, .slice A2 n2 c2, .slice A3 n3 c3, .slice A4 n4 c4] 26))) (fun v _ => n4 - (intOf v).toNat)
          case atStart => exact ⟨0, rfl, Nat.zero_le _, HPX⟩
          case round =>
            clear HPX
            obtain ⟨i, rfl, hi', HPX⟩ := hrel
            obtain ⟨x0, x1, x2, x3, x4⟩ := cells5 HPX.out.bp
            by_cases hlt : i < n4
            · have hlt' : (i : Int) < (n4 : Int) := by omega
              obtain ⟨N', hN⟩ : ∃ N', N = N' + 1 := by
                obtain ⟨g, cur, -, -, -, -, hq⟩ := HR4.out.2 (by omega)
                obtain ⟨-, ds, -, hs⟩ := hq i hlt
                cases N with
                | zero => exact hs.elim
                | succ N => exact ⟨N, rfl⟩
              obtain ⟨j0, j1, J2, m2, e2, J3, m3, e3, J4, m4, e4, hcs, hr2', hr3', hr4'⟩ := HSH.out.ty HPX.out.ty
              obtain ⟨h1, h2, h3, h4, h5⟩ : k0 = j0 ∧ b0 = j1 ∧ (A2 = J2 ∧ n2 = m2 ∧ c2 = e2) ∧ (A3 = J3 ∧ n3 = m3 ∧ c3 = e3) ∧ (A4 = J4 ∧ n4 = m4 ∧ c4 = e4) := by simpa using hcs
              obtain ⟨rfl, rfl, rfl⟩ := h5
              clear hcs h1 h2 h3 h4 hr2' hr3'
              obtain ⟨g, cur, hA4, hl, hh, hb, hq⟩ := hr4'.2 (by omega)
              obtain ⟨hsz, ds, hds, hs⟩ := hq i hlt
              have HSD := Aside0.mk hs
              rw [hN] at hs
              obtain ⟨u0, u1, U2, v2, z2, U3, v3, z3, U4, v4, z4, rfl, -, -, -⟩ := hs
              subst hA4
              have y0 : wr.cell? ⟨g, i * 5, none⟩ = some (.int .i64 u0) := (blk_cell hb (i * 5)).trans (hds 0 (by omega))
              have y1 : wr.cell? ⟨g, i * 5 + 1, none⟩ = some (.bool u1) := (blk_cell hb (i * 5 + 1)).trans (hds 1 (by omega))
              have y2 : wr.cell? ⟨g, i * 5 + 2, none⟩ = some (.slice U2 v2 z2) := (blk_cell hb (i * 5 + 2)).trans (hds 2 (by omega))
              have y3 : wr.cell? ⟨g, i * 5 + 3, none⟩ = some (.slice U3 v3 z3) := (blk_cell hb (i * 5 + 3)).trans (hds 3 (by omega))
              have y4 : wr.cell? ⟨g, i * 5 + 4, none⟩ = some (.slice U4 v4 z4) := (blk_cell hb (i * 5 + 4)).trans (hds 4 (by omega))
              have HBG := Aside0.mk (And.intro hb hsz)
              clear hb hsz hds hq hr4' hN
              go_wp2_with fail
              clear y0 y1 y2 y3 y4
              refine (IH.out _ wr HSD.out (by have := HPX.out.ty.size; have := HHP.out; have := blk_lt HPX.out.bp; omega)).mono ?_
              rintro e_ w5 ⟨rfl, ht5⟩
              have HPX5 := Aside0.mk (HPX.out.go HHP.out ht5)
              obtain ⟨cur5, hb5, hty5⟩ := ht5.in_ g 26 cur hl hh HBG.out.1
              have hsz5 : i * 5 + 4 < cur5.size := by rw [hty5.size]; exact HBG.out.2
              obtain ⟨⟨r0, o0, q0⟩, ⟨r1, o1, q1⟩, ⟨r2, o2, q2⟩, ⟨r3, o3, q3⟩, ⟨r4, o4, q4⟩⟩ := zfacts hb5 hsz5 (.int .i64 (-1)) (.bool false) (.slice none 0 0) (.slice none 0 0) (.slice none 0 0)
              have HS : Aside0 (PX lo hi w (zworld w5 g i) p _) := ⟨HPX5.out.go HHP.out (Ty.zero hb5 hl hh hsz5)⟩
              clear ht5 hb5 hty5 hsz5 x0 x1 x2 x3 x4
              obtain ⟨x0, x1, x2, x3, x4⟩ := cells5 HPX5.out.bp
              go_wp2_with fail
              exact ⟨⟨i + 1, by go_num, by omega, HS⟩, by simp [intOf]; omega⟩
            · have hlt' : ¬ (i : Int) < (n4 : Int) := by omega
              go_wp2_with fail
              exact bodyPost_end (v := .tuple #[]) (by simp [results, Tryd.results21, go_sem]) rfl ⟨rfl, HPX.out.ty⟩
theorem spoilt_any (lo hi : Nat) : ∀ N, SPC lo hi N := by
  intro N
  induction N with
  | zero => intro cs w h; exact h.elim
  | succ N ih => exact spoilt_step lo hi N ih
end Go.Proofs.YtfnofjcdaghniaaDoor.Tree
/- Lay: what its walk keeps. Own work. -/
namespace Go.Proofs.YtfnofjcdaghniaaDoor.Tree
set_option linter.unusedVariables false
set_option linter.unusedSimpArgs false
open Go.RowKit Go.Proofs.YtfnofjcdaghniaaDoor.PL Go.Proofs.YtfnofjcdaghniaaDoor.Mt Go.Proofs.YtfnofjcdaghniaaDoorW.PrintWords Go.Proofs.YtfnofjcdaghniaaDoorW.PrintLast Go.Proofs.YtfnofjcdaghniaaDoorW.PrintMore
/-- Lay, as a plain function -/
def layS (t : S26) (n : ByteArray) (x : S26) : S26 :=
  if hasS t.f3 n = true then ⟨t.f0, t.f1, t.f2, t.f3, t.f4.set (posS t.f3 n) x⟩
  else ⟨t.f0, t.f1, t.f2, t.f3.take (posS t.f3 n) ++ n :: t.f3.drop (posS t.f3 n), t.f4.take (posS t.f3 n) ++ x :: t.f4.drop (posS t.f3 n)⟩
structure LW (w wr : World) (n7 a b c : Nat) (oa ob oc : Array Value) (v3 v4 : Value) (ns : List ByteArray) (css : List (List Value)) : Prop where
  pw : PW w wr a b c oa ob oc
  hi : a < n7 ∧ b < n7 ∧ c < n7
  lo : w.heap.size ≤ n7
  sz : n7 ≤ wr.heap.size
  rn : Kd.string.R 9 wr n7 (fun _ => True) v3 ns
  rk : kraw.R 26 wr n7 (fun _ => True) v4 css
section
variable {w wr w2 : World} {n7 a b c : Nat} {oa ob oc : Array Value} {v3 v4 u3 u4 : Value} {ns ms : List ByteArray} {css cst : List (List Value)}
theorem PW.stepN (h : PW w wr a b c oa ob oc) (hi : a < n7 ∧ b < n7 ∧ c < n7) (lo : w.heap.size ≤ n7) (hb : Below n7 wr w2) : PW w w2 a b c oa ob oc :=
  ⟨(hb.block _ hi.1).trans h.ba, (hb.block _ hi.2.1).trans h.bb, (hb.block _ hi.2.2).trans h.bc, h.ne, h.lo, below_thenM h.bel lo hb⟩
theorem LW.go (h : LW w wr n7 a b c oa ob oc v3 v4 ns css) (hb : Below n7 wr w2) (h3 : Kd.string.R 9 w2 n7 (fun _ => True) u3 ms) (h4 : kraw.R 26 w2 n7 (fun _ => True) u4 cst) : LW w w2 n7 a b c oa ob oc u3 u4 ms cst :=
  ⟨h.pw.stepN h.hi h.lo hb, h.hi, h.lo, Nat.le_trans h.sz hb.size, h3, h4⟩
theorem LW.lit (h : LW w wr n7 a b c oa ob oc v3 v4 ns css) (hb : Below n7 wr w2) (hg : wr.grownBy w2 none) : LW w w2 n7 a b c oa ob oc v3 v4 ns css :=
  h.go hb (Kd.R_grown h.rn hg (fun _ _ => by simp)) (Kd.R_grown h.rk hg (fun _ _ => by simp))
theorem LW.lit3 (h : LW w wr n7 a b c oa ob oc v3 v4 ns css) (hr : Kd.string.R 9 w2 n7 (fun _ => True) u3 ms) (hb : Below n7 wr w2) (hg : wr.grownBy w2 none) : LW w w2 n7 a b c oa ob oc u3 v4 ms css :=
  h.go hb hr (Kd.R_grown h.rk hg (fun _ _ => by simp))
theorem LW.lit4 (h : LW w wr n7 a b c oa ob oc v3 v4 ns css) (hr : kraw.R 26 w2 n7 (fun _ => True) u4 cst) (hb : Below n7 wr w2) (hg : wr.grownBy w2 none) : LW w w2 n7 a b c oa ob oc v3 u4 ns cst :=
  h.go hb (Kd.R_grown h.rn hg (fun _ _ => by simp)) hr
theorem LW.app3 (h : LW w wr n7 a b c oa ob oc v3 v4 ns css) (hr : Kd.string.R 9 w2 n7 (fun _ => True) u3 ms) (hb : Below n7 wr w2) (hg : wr.grownBy w2 v3.ownBlock) : LW w w2 n7 a b c oa ob oc u3 v4 ms css :=
  h.go hb hr (Kd.R_over h.rk h.rn (by intro q hq; simp [kraw] at hq; omega) hg)
theorem LW.app4 (h : LW w wr n7 a b c oa ob oc v3 v4 ns css) (hr : kraw.R 26 w2 n7 (fun _ => True) u4 cst) (hb : Below n7 wr w2) (hg : wr.grownBy w2 v4.ownBlock) : LW w w2 n7 a b c oa ob oc v3 u4 ns cst :=
  h.go hb (Kd.R_over h.rn h.rk (by decide) hg) hr
theorem LW.seta {oa' : Array Value} (h : LW w wr n7 a b c oa ob oc v3 v4 ns css) (j : Nat) (x : Value) (ho : oa.setIfInBounds j x = oa') : LW w (wr.setCell ⟨a, j, none⟩ x) n7 a b c oa' ob oc v3 v4 ns css := by
  obtain ⟨i1, i2, i3⟩ := h.hi
  obtain ⟨e1, e2, e3⟩ := h.pw.ne
  have far : ∀ k, k ≠ a → (wr.setCell ⟨a, j, none⟩ x).heap[k]? = wr.heap[k]? := fun k hk => Below.heap_setCell _ ⟨a, j, none⟩ x k hk
  subst ho
  exact ⟨⟨blk_set h.pw.ba j x, (far _ e1.symm).trans h.pw.bb, (far _ e2.symm).trans h.pw.bc, h.pw.ne, h.pw.lo, below_set h.pw.bel h.pw.lo.1⟩, h.hi, h.lo, by simpa [World.setCell] using h.sz,
    Kd.R_mono (Kd.R_step (Kd.R_bound h.rn) (fun k hk _ => far k (by have := hk.2.1; omega))) (fun _ _ => trivial), Kd.R_mono (Kd.R_step (Kd.R_bound h.rk) (fun k hk _ => far k (by have := hk.2.1; omega))) (fun _ _ => trivial)⟩
end
/-- what a tree that is read under D0 reads lies in D0 -/
noncomputable def blank (D0 : Nat → Prop) (w : World) : World := { w with heap := w.heap.mapIdx (fun k o => @ite _ (D0 k) (Classical.propDecidable _) o (.cells #[] 0 (0, 0))) }
theorem blank_fr (D0 : Nat → Prop) (w : World) : Fr D0 w (blank D0 w) := by
  refine ⟨rfl, rfl, rfl, by simp [blank], fun k hk => ?_⟩
  show (w.heap.mapIdx _)[k]? = w.heap[k]?
  rw [Array.getElem?_mapIdx]
  cases w.heap[k]? with
  | none => rfl
  | some o => simp [hk]
theorem blank_cell {D0 : Nat → Prop} {w : World} {a : Addr} {v : Value} (h : (blank D0 w).cell? a = some v) : D0 a.block := by
  refine Classical.byContradiction fun hn => ?_
  have hb : (blank D0 w).heap[a.block]? = (w.heap[a.block]?).map (fun _ => Obj.cells #[] 0 (0, 0)) := by
    show (w.heap.mapIdx _)[a.block]? = _
    rw [Array.getElem?_mapIdx]
    cases w.heap[a.block]? with
    | none => rfl
    | some o => simp [hn]
  cases hw : w.heap[a.block]? with
  | none =>
    rw [hw] at hb
    simp [World.cell?, hb] at h
  | some o =>
    rw [hw] at hb
    simp [World.cell?, hb] at h
theorem KG.TR {D0 : Nat → Prop} {w : World} {t : S26} {A2 : Option Addr} {c2 : Nat} {A3 : Option Addr} {c3 : Nat} {A4 : Option Addr} {c4 : Nat} (h : KG D0 w t (cs5 t A2 c2 A3 c3 A4 c4)) {w1 : World} (hf : Fr D0 w w1) : TR w1 t A2 c2 A3 c3 A4 c4 := TR.of (h w1 hf)
/-- a kid, read where its parent is -/
theorem KG.kid {D0 : Nat → Prop} {w : World} {t : S26} {A2 : Option Addr} {c2 : Nat} {A3 : Option Addr} {c3 : Nat} {A4 : Option Addr} {c4 : Nat} (h : KG D0 w t (cs5 t A2 c2 A3 c3 A4 c4)) {j : Nat} {y : S26} {c : List Value} {ad : Addr} (hA : A4 = some ad) (hy : t.f4[j]? = some y)
    (hc5 : c.length = 5) (hc : ∀ i, i < 5 → w.cell? (ad.add (j * 5 + i)) = c[i]?) : KG D0 w y c := by
  intro w2 hf
  obtain ⟨hj, hy2⟩ := List.getElem?_eq_some_iff.1 hy
  have key : ∀ W, Fr D0 w W → ∃ d : List Value, d.length = 5 ∧ k26.K W y d ∧ ∀ i, i < 5 → W.cell? (ad.add (j * 5 + i)) = d[i]? := fun W hW => by
    obtain ⟨h1, h2, h3⟩ := (h.TR hW).2.2.2.2.2
    obtain ⟨ad', e, g⟩ := h3 (by omega)
    rw [hA] at e
    obtain rfl := Option.some.inj e
    obtain ⟨d, g1, g2, g3⟩ := g j y hy
    refine ⟨d, g1, g2, fun i hi => ?_⟩
    have hid : i < d.length := by rw [g1]; exact hi
    rw [List.getElem?_eq_getElem hid]
    exact g3 i _ (List.getElem?_eq_getElem hid)
  obtain ⟨d0, q1, q2, q3⟩ := key _ (blank_fr D0 w)
  have addb : ∀ k, (ad.add k).block = ad.block := fun k => by unfold Addr.add; split <;> rfl
  have hD : D0 ad.block := by
    have h9 := q3 0 (by omega)
    rw [List.getElem?_eq_getElem (by rw [q1]; omega)] at h9
    have h8 := blank_cell h9
    rw [addb] at h8
    exact h8
  obtain ⟨d, e1, e2, e3⟩ := key w2 hf
  have he : d = c := by
    apply List.ext_getElem?
    intro i
    by_cases hi : i < 5
    · rw [← e3 i hi, ← hc i hi]
      exact World.cell?_of_block (hf.block _ (by rw [addb]; exact hD))
    · rw [List.getElem?_eq_none (by omega), List.getElem?_eq_none (by omega)]
  rw [← he]
  exact e2
theorem OT.KG {w : World} {base : Nat} {t : S26} {B2 : Option Addr} {d2 : Nat} {B3 : Option Addr} {d3 : Nat} {B4 : Option Addr} {d4 : Nat} (h : OT w base t (.slice B2 t.f2.length d2) (.slice B3 t.f3.length d3) (.slice B4 t.f4.length d4)) : KG (fun k => base ≤ k ∧ k < w.heap.size) w t (cs5 t B2 d2 B3 d3 B4 d4) := by
  intro w2 hf
  have st : ∀ {α : Type} {d : Kd α} {e : Nat} {ok : Nat → Prop} {v : Value} {xs : List α}, d.R e w base ok v xs → d.R e w2 base ok v xs := fun hr =>
    Kd.R_mono (Kd.R_step (Kd.R_bound hr) (fun k hk hlt => hf.block k ⟨hk.2.1, hlt⟩)) (fun _ hk => hk.1)
  exact (OT.TR ⟨st h.1, st h.2.1, st h.2.2⟩).K
/-- where a tree that is laid lies -/
def LD (D0 : Nat → Prop) (w w' : World) (m m' : Nat) (k : Nat) : Prop := D0 k ∨ (m ≤ k ∧ k < m') ∨ (w.heap.size ≤ k ∧ k < w'.heap.size)
/-- what a call of Lay tells -/
def LayP (D0 : Nat → Prop) (w : World) (m m' : Nat) (r : S26) (e : Ending) (w' : World) : Prop := ∃ A2 c2 A3 c3 A4 c4, e = .returned (TV r A2 c2 A3 c3 A4 c4) ∧ KG (LD D0 w w' m m') w' r (cs5 r A2 c2 A3 c3 A4 c4) ∧ Below w.heap.size w w'
theorem lay_fin {D0 : Nat → Prop} {w0 w wr : World} {m m' n7 a b c : Nat} {oa ob : Array Value} {x : S26} {cs : List Value} {v3 : Value} {ms : List ByteArray} {css : List (List Value)} {k : Int} {f1 : Bool} {f2 : List Int} {ns : List ByteArray} {ks : List S26} {A2 : Option Addr} {c2 : Nat} {A3 : Option Addr} {c3 n3 n4 : Nat} {A4 : Option Addr} {c4 : Nat} {r : S26} {y0 y1 y2 y3 y4 : Value}
    (h : LW w wr n7 a b c oa ob #[y0, y1, y2, y3, y4] v3 (.slice A4 n4 c4) ms css) (hB : Below w0.heap.size w0 w) (hD : ∀ k, D0 k → k < w0.heap.size) (hkg : KG (fun k => D0 k ∨ (m ≤ k ∧ k < m')) w x cs) (hm : m' ≤ w.heap.size)
    (h2 : ∀ w2, Fr D0 w0 w2 → (Kd.int .u8).C w2 A2 f2.length f2) (h2l : f2.length ≤ c2) (e3 : n3 = ns.length) (e4 : n4 = css.length)
    (hn : ((∀ w2, Fr D0 w0 w2 → Kd.string.C w2 A3 ns.length ns) ∧ ns.length ≤ c3) ∨ (v3 = .slice A3 n3 c3 ∧ ms = ns))
    (hl : ks.length = css.length) (hk : ∀ (j : Nat) (y : S26) (c : List Value), ks[j]? = some y → css[j]? = some c → KG D0 w0 y c ∨ (y = x ∧ c = cs)) (hr : r = ⟨k, f1, f2, ns, ks⟩) :
    LayP D0 w m m' r (.returned (.agg #[.int .i64 k, .bool f1, .slice A2 f2.length c2, .slice A3 n3 c3, .slice A4 n4 c4]))
      (((((wr.setCell ⟨c, 0, none⟩ (.int .i64 k)).setCell ⟨c, 1, none⟩ (.bool f1)).setCell ⟨c, 2, none⟩ (.slice A2 f2.length c2)).setCell ⟨c, 3, none⟩ (.slice A3 n3 c3)).setCell ⟨c, 4, none⟩ (.slice A4 n4 c4)) := by
  subst e3 e4 hr
  obtain ⟨i1, i2, i3⟩ := h.hi
  have hwn := h.lo
  have lo := h.pw.lo
  have hbel : Below w.heap.size w (((((wr.setCell ⟨c, 0, none⟩ (.int .i64 k)).setCell ⟨c, 1, none⟩ (.bool f1)).setCell ⟨c, 2, none⟩ (.slice A2 f2.length c2)).setCell ⟨c, 3, none⟩ (.slice A3 ns.length c3)).setCell ⟨c, 4, none⟩ (.slice A4 css.length c4)) := box_below h.pw.bel lo.2.2 _ _ _ _ _
  obtain ⟨wc, hwc⟩ : ∃ q, (((((wr.setCell ⟨c, 0, none⟩ (.int .i64 k)).setCell ⟨c, 1, none⟩ (.bool f1)).setCell ⟨c, 2, none⟩ (.slice A2 f2.length c2)).setCell ⟨c, 3, none⟩ (.slice A3 ns.length c3)).setCell ⟨c, 4, none⟩ (.slice A4 css.length c4)) = q := ⟨_, rfl⟩
  have hfr : ∀ D : Nat → Prop, (∀ k, D k → k ≠ c) → Fr D wr wc := fun D hd => hwc ▸ Fr.box wr c _ _ _ _ _ hd
  rw [hwc] at hbel ⊢
  have hsz : wr.heap.size ≤ wc.heap.size := (hfr (fun _ => False) (fun _ h => h.elim)).size
  refine ⟨A2, c2, A3, c3, A4, c4, by show Ending.returned (.agg #[_, _, _, _, .slice A4 css.length c4]) = _; rw [← hl], ?_, hbel⟩
  have r4 : kraw.R 26 wc n7 (fun k => n7 ≤ k ∧ k < wc.heap.size) (.slice A4 css.length c4) css := Kd.R_mono (Kd.R_step (Kd.R_bound h.rk) (fun k hk _ => (hfr (fun k => k ≠ c) (fun _ h => h)).block k (by have := hk.2.1; omega))) (fun k hk => ⟨hk.2.1, by have := hk.2.2.1; omega⟩)
  have r3 : Kd.string.R 9 wc n7 (fun k => n7 ≤ k ∧ k < wc.heap.size) v3 ms := Kd.R_mono (Kd.R_step (Kd.R_bound h.rn) (fun k hk _ => (hfr (fun k => k ≠ c) (fun _ h => h)).block k (by have := hk.2.1; omega))) (fun k hk => ⟨hk.2.1, by have := hk.2.2.1; omega⟩)
  have hkg2 : KG (LD D0 w wc m m') wc x cs := (hkg.move (⟨hbel.os, hbel.tape, hbel.output, hbel.size, fun k hk => hbel.block k (by have := hB.size; rcases hk with h | h; have := hD k h; omega; omega)⟩ : Fr (fun k => D0 k ∨ (m ≤ k ∧ k < m')) w wc)).mono (fun k hk => hk.elim .inl (fun h => .inr (.inl h)))
  intro w2 hw
  have hB2 : Fr D0 w0 w2 := ⟨hw.os.trans (hbel.os.trans hB.os), hw.tape.trans (hbel.tape.trans hB.tape), hw.output.trans (hbel.output.trans hB.output), Nat.le_trans hB.size (Nat.le_trans hbel.size hw.size), fun k hk => (hw.block k (.inl hk)).trans ((hbel.block k (by have := hB.size; have := hD k hk; omega)).trans (hB.block k (hD k hk)))⟩
  obtain ⟨_, q4, s4⟩ := Kd.R_reads' (Kd.R_step r4 (w1 := w2) (fun k hk _ => hw.block k (.inr (.inr ⟨by omega, hk.2⟩))))
  have h3 : Kd.string.C w2 A3 ns.length ns ∧ ns.length ≤ c3 := by
    rcases hn with ⟨g1, g2⟩ | ⟨g1, g2⟩
    · exact ⟨g1 w2 hB2, g2⟩
    · subst g1 g2
      obtain ⟨_, q3, s3⟩ := Kd.R_reads' (Kd.R_step r3 (w1 := w2) (fun k hk _ => hw.block k (.inr (.inr ⟨by omega, hk.2⟩))))
      exact ⟨s3, q3⟩
  rw [cs5]
  refine k26_mk w2 ⟨k, f1, f2, ns, ks⟩ h2l (h2 w2 hB2) h3.2 h3.1 (by show ks.length ≤ c4; omega) (kids_C s4 hl (fun j y c hx hc => ?_))
  rcases hk j y c hx hc with h9 | ⟨rfl, rfl⟩
  · exact h9 w2 hB2
  · exact hkg2 w2 hw
end Go.Proofs.YtfnofjcdaghniaaDoor.Tree
/- Lay, walked. Own work; printed by gen_ly.py. -/
namespace Go.Proofs.YtfnofjcdaghniaaDoor.Tree
set_option linter.unusedVariables false
set_option linter.unusedSimpArgs false
open Go.RowKit Go.Proofs.YtfnofjcdaghniaaDoor.PL Go.Proofs.YtfnofjcdaghniaaDoor.Mt Go.Proofs.YtfnofjcdaghniaaDoorW.PrintWords Go.Proofs.YtfnofjcdaghniaaDoorW.PrintLast Go.Proofs.YtfnofjcdaghniaaDoorW.PrintMore
theorem pos_lt0 {l : List ByteArray} {n : ByteArray} {j : Nat} (hj : j < l.length) (h : j < posS l n) : ltB l[j] n = true := by
  have h1 : l[j] ∈ l.takeWhile (fun s => ltB s n) := by
    have h2 : (l.takeWhile (fun s => ltB s n)) <+: l := List.takeWhile_prefix _
    have h3 : j < (l.takeWhile (fun s => ltB s n)).length := h
    have h4 := h2.getElem h3
    rw [← h4]
    exact List.getElem_mem h3
  exact List.all_eq_true.1 (List.all_takeWhile (p := fun s => ltB s n) (l := l)) _ h1
theorem pos_not0 {l : List ByteArray} {n : ByteArray} (h : posS l n < l.length) : ltB l[posS l n] n = false := by
  induction l with
  | nil => simp at h
  | cons a l ih =>
    cases ha : ltB a n with
    | false =>
      have e : posS (a :: l) n = 0 := by unfold posS; rw [List.takeWhile_cons, if_neg (by rw [ha]; simp)]; rfl
      simp only [e]
      exact ha
    | true =>
      have e : posS (a :: l) n = posS l n + 1 := by unfold posS; rw [List.takeWhile_cons, if_pos ha]; rfl
      have h2 : posS l n < l.length := by rw [e, List.length_cons] at h; omega
      simp only [e, List.getElem_cons_succ]
      exact ih h2
set_option maxRecDepth 20000 in
set_option maxHeartbeats 8000000 in
theorem Lay_any (D0 : Nat → Prop) (N : Nat) (t : S26) (A2 : Option Addr) (c2 : Nat) (A3 : Option Addr) (c3 : Nat) (A4 : Option Addr) (c4 : Nat) (n : ByteArray) (x : S26) (B2 : Option Addr) (d2 : Nat) (B3 : Option Addr) (d3 : Nat) (B4 : Option Addr) (d4 : Nat) (w0 w : World) (m m' : Nat)
    (hB : Below w0.heap.size w0 w) (hD : ∀ k, D0 k → k < w0.heap.size) (ht : KG D0 w0 t (cs5 t A2 c2 A3 c3 A4 c4)) (ho : Okt (N + 1) t) (hkg : KG (fun k => D0 k ∨ (m ≤ k ∧ k < m')) w x (cs5 x B2 d2 B3 d3 B4 d4)) (hm : m' ≤ w.heap.size) :
    Calls Tryd.prog 58 #[TV t A2 c2 A3 c3 A4 c4, .string n, TV x B2 d2 B3 d3 B4 d4] w (LayP D0 w m m' (layS t n x)) := by
  have hDw : ∀ k, D0 k → k < w.heap.size := fun k hk => Nat.lt_of_lt_of_le (hD k hk) hB.size
  have hK : KG D0 w t (cs5 t A2 c2 A3 c3 A4 c4) := ht.move (Fr.below hB hD)
  have HTW : Aside0 (∀ W : World, Below w.heap.size w W → TR W t A2 c2 A3 c3 A4 c4) := ⟨fun W hW => hK.TR (Fr.below hW hDw)⟩
  have HT := Aside0.mk (And.intro hK hDw)
  have HX := Aside0.mk (And.intro hkg hm)
  have HO := Aside0.mk ho
  have hl3 := ho.2.2.1
  have HLEN := Aside0.mk ho.1
  have hlc3 := (HTW.out w (Below.refl _ w)).2.2.1
  have hlc4 := (HTW.out w (Below.refl _ w)).2.2.2.2.1
  clear ht hB hkg hm ho hD
  have HW := Aside0.mk (PW.enter w t x A2 c2 A3 c3 A4 c4 B2 d2 B3 d3 B4 d4)
  go_enter Tryd.func58, Tryd.ntmps58
  go_upto_region 1 with fail
  generalize (((w.alloc (bx t A2 c2 A3 c3 A4 c4)).alloc (bx x B2 d2 B3 d3 B4 d4)).alloc (.cells #[.int .i64 0, .bool false, .slice none 0 0, .slice none 0 0, .slice none 0 0] 26)) = w3 at *
  obtain ⟨a, ha⟩ : ∃ q, w.heap.size = q := ⟨_, rfl⟩
  rw [ha] at HW ⊢
  clear ha
  obtain ⟨b, hb⟩ : ∃ q, a + 1 = q := ⟨_, rfl⟩
  rw [hb] at HW ⊢
  clear hb
  obtain ⟨c, hc⟩ : ∃ q, b + 1 = q := ⟨_, rfl⟩
  rw [hc] at HW ⊢
  clear hc
  have HCN : Aside0 (∀ W : World, Below w.heap.size w W → Kd.string.C W A3 t.f3.length t.f3) := ⟨fun W hW => (HTW.out W hW).2.2.2.1⟩
  obtain ⟨css, hcl, hraw, hcs⟩ := kids_raw (HTW.out w (Below.refl _ w)).2.2.2.2.2
  have HRAW : Aside0 (∀ W : World, Below w.heap.size w W → kraw.C W A4 t.f4.length css) := ⟨fun W hW => hcl ▸ Kd.C_below hraw hW⟩
  have HCS : Aside0 (∀ (j : Nat) (y : S26) (c : List Value), t.f4[j]? = some y → css[j]? = some c → KG D0 w y c) := ⟨fun j y c hy hc => by
    obtain ⟨h1, h2, h3⟩ := hraw
    have hj := (List.getElem?_eq_some_iff.1 hc).1
    obtain ⟨ad, e, g⟩ := h3 (by omega)
    obtain ⟨c', g1, ⟨rfl, g4, g5⟩, g3⟩ := g j c hc
    refine KG.kid hK e hy g4 (fun i hi => ?_)
    rw [List.getElem?_eq_getElem (by rw [g4]; exact hi)]
    exact g3 i _ (List.getElem?_eq_getElem (by rw [g4]; exact hi))⟩
  have HCL := Aside0.mk hcl
  have hl4 : t.f4.length ≤ 900000 := by have := HLEN.out; omega
  clear hraw hcs hcl hDw
  have HKT := Aside0.mk hK
  clear hK
  obtain ⟨i, hi⟩ : ∃ q, posS t.f3 n = q := ⟨_, rfl⟩
  have hil : i ≤ t.f3.length := by rw [← hi]; exact posS_le _ _
  have HI := Aside0.mk hi
  clear hi
  have NM : Aside0 (∀ (k : Nat) (hk : k < t.f3.length) (W : World), Below w.heap.size w W → ∃ ad, A3 = some ad ∧ W.cell? (ad.add k) = some (.string t.f3[k])) := ⟨fun k hk W hW => by
    obtain ⟨ad, hA, hcn⟩ := Kd.at_string (HCN.out W hW) (k : Int) (by omega) (by omega)
    rw [rdB hk, Int.toNat_natCast] at hcn
    exact ⟨ad, hA, hcn⟩⟩
  go_wp2_with fail
  go_loopw [7] (fun v wr => ∃ k : Nat, v = .int .i64 (k : Int) ∧ k ≤ i ∧ wr = w3) (fun v _ => i - (intOf v).toNat)
  case atStart => exact ⟨0, rfl, Nat.zero_le _, rfl⟩
  case round =>
    obtain ⟨k, rfl, hk, rfl⟩ := hrel
    obtain ⟨x0, x1, x2, x3, x4⟩ := cells5 HW.out.ba
    by_cases hki : k < i
    · skip
      have hkl : (k : Int) < (t.f3.length : Int) := by omega
      obtain ⟨ad, hA, hcn⟩ := NM.out k (by omega) wr HW.out.bel
      obtain ⟨s, hs⟩ : ∃ q, t.f3[k] = q := ⟨_, rfl⟩
      have hlt : Op.bytesLess s.toList n.toList = true := by
        have h1 := pos_lt0 (l := t.f3) (n := n) (show k < t.f3.length by omega) (by rw [HI.out]; exact hki)
        rw [hs] at h1
        exact h1
      rw [hs] at hcn
      subst hA
      clear hs
      go_wp2_with fail
      exact ⟨⟨k + 1, by go_num, by omega, trivial⟩, by simp [intOf]; omega⟩
    · skip
      obtain rfl : k = i := by omega
      clear hki hk
      have hc3 : (∃ s, ∃ h1 : k < t.f3.length, t.f3[k] = s ∧ (s.toList == n.toList) = true) ∨ (∃ s, ∃ h1 : k < t.f3.length, t.f3[k] = s ∧ (s.toList == n.toList) = false) ∨ ¬ k < t.f3.length := by
        by_cases h1 : k < t.f3.length
        · cases heq : (t.f3[k].toList == n.toList) with
          | true => exact .inl ⟨_, h1, rfl, heq⟩
          | false => exact .inr (.inl ⟨_, h1, rfl, heq⟩)
        · exact .inr (.inr h1)
      rcases hc3 with ⟨s, h1, hs, heq⟩ | ⟨s, h1, hs, heq⟩ | h1
      · skip
        have hnlt : Op.bytesLess s.toList n.toList = false := by
          have h2 := pos_not0 (l := t.f3) (n := n) (by rw [HI.out]; exact h1)
          simp only [HI.out] at h2
          rw [hs] at h2
          exact h2
        have HHAS : Aside0 (hasS t.f3 n = (s.toList == n.toList)) := ⟨by
          unfold hasS
          rw [HI.out, List.getElem?_eq_getElem h1, hs, Bool.eq_iff_iff, decide_eq_true_iff, beq_iff_eq]
          exact ⟨fun e => by rw [Option.some.inj e], fun e => by rw [ba_eq.1 e]⟩⟩
        have hkl : (k : Int) < (t.f3.length : Int) := by omega
        obtain ⟨ad, hA, hcn⟩ := NM.out k h1 wr HW.out.bel
        rw [hs] at hcn
        subst hA
        clear hs
        have HR : Aside0 (layS t n x = ⟨t.f0, t.f1, t.f2, t.f3, t.f4.set k x⟩) := ⟨by unfold layS; rw [if_pos (show hasS t.f3 n = true by rw [HHAS.out, heq]), HI.out]⟩
        go_upto_region 5 with fail
        clear hcn
        obtain ⟨n7, hn7⟩ : ∃ q, wr.heap.size = q := ⟨_, rfl⟩
        have HL : Aside0 (LW w wr n7 a b c _ _ _ (.slice none 0 0) (.slice none 0 0) [] []) := ⟨⟨HW.out, by rw [← hn7]; exact ⟨blk_lt HW.out.ba, blk_lt HW.out.bb, blk_lt HW.out.bc⟩, by rw [← hn7]; exact HW.out.bel.size, Nat.le_of_eq hn7.symm, Kd.R_nil _ _ _ _ _, Kd.R_nil _ _ _ _ _⟩⟩
        clear hn7 HW
        go_upto_region 6 with (first | ((with_reducible refine gate_dst (N := 41) rfl ?_); refine Kd.R_lit kraw n7 26 ?hg (N := 41) ?hd (xs := ([] : List (List Value))) (inner := []) (ok := fun _ => True) (okp := fun _ => True) ?hr ?hp (fun _ hk => hk) trivial (Below.refl _ _) HL.out.sz (by simp) ?_; (case hd => rfl); (case hg => rfl); (case hr => first | (go_simp; done) | (go_simp; rfl)); (case hp => exact (Reps.none _ _)); intro v1 w1 ho hb hg hnew; have HL := Aside0.mk (HL.out.lit4 ho hb hg); obtain ⟨V1, e1, rfl⟩ := Kd.R_slice ho; clear ho hb hg hnew; generalize w1 = wr at *; clear x0 x1 x2 x3 x4; obtain ⟨x0, x1, x2, x3, x4⟩ := cells5 HL.out.pw.ba) | ((with_reducible refine gate_builtin (b := .append) (xs := #[.tmp 41, .tmp 43]) rfl ?_); at_builtin; refine Kd.R_append_rows kraw n7 rfl (.tmp 41) (.tmp 43) 24 26 (.agg #[.int .i64 0, .bool false, .slice none 0 0, .slice none 0 0, .slice none 0 0]) 88 rfl Tryd.underlying24 (by kernel_rfl) rfl (by decide) (by decide) _ [] css _ _ _ (fun _ => True) (fun _ => False) rfl rfl HL.out.rk (HRAW.out _ HL.out.pw.bel) (fun _ _ h => h) (fun _ h => h.elim) (fun _ _ => trivial) (Below.refl _ _) HL.out.sz (by rw [List.length_nil]; omega) ?_; intro v2 w2 ho hb hg hat; have HL := Aside0.mk (HL.out.app4 ho hb hg); clear ho hb hg hat; clear x0 x1 x2 x3 x4; generalize w2 = wr at *))
        have HL : Aside0 (LW w wr n7 a b c _ _ _ _ v2 [] css) := ⟨HL.out⟩
        obtain ⟨g, q4, rfl, hg7, hg8, -⟩ := Kd.R_form HL.out.rk (by have := HCL.out; have := HLEN.out; omega)
        clear hg7 hg8
        have hkc : (k : Int) < (css.length : Int) := by have := HCL.out; have := HLEN.out; omega
        have hkc2 : k < css.length := by omega
        have hk1 := k26.K_one HX.out.1.here
        obtain ⟨x0, x1, x2, x3, x4⟩ := cells5 HL.out.pw.bb
        obtain ⟨⟨p0, g0, h0⟩, ⟨p1, g1, h1_⟩, ⟨p2, g2_, h2_⟩, ⟨p3, g3_, h3_⟩, p4, g4_, h4_⟩ := raw_facts HL.out.rk (i := k) hkc2 (.int .i64 x.f0) (.bool x.f1) (.slice B2 x.f2.length d2) (.slice B3 x.f3.length d3) (.slice B4 x.f4.length d4)
        have HPUT := Aside0.mk (raw_put HL.out.rk (i := k) hkc2 hk1)
        clear hk1
        go_upto_region 7 with fail
        clear g0 h0 g1 h1_ g2_ h2_ g3_ h3_ g4_ h4_ x0 x1 x2 x3 x4
        have HL := Aside0.mk (HL.out.app4 HPUT.out.1 HPUT.out.2.1 HPUT.out.2.2)
        clear HPUT
        generalize (((((wr.setCell ⟨g, k * 5, none⟩ (.int .i64 x.f0)).setCell ⟨g, k * 5 + 1, none⟩ (.bool x.f1)).setCell ⟨g, k * 5 + 2, none⟩ (.slice B2 x.f2.length d2)).setCell ⟨g, k * 5 + 3, none⟩ (.slice B3 x.f3.length d3)).setCell ⟨g, k * 5 + 4, none⟩ (.slice B4 x.f4.length d4)) = wr at *
        obtain ⟨x0, x1, x2, x3, x4⟩ := cells5 HL.out.pw.ba
        have fa4 := blk_frozen HL.out.pw.ba 4
        have HL := Aside0.mk (HL.out.seta 4 (.slice (some ⟨g, 0, none⟩) css.length q4) (oa' := #[.int .i64 t.f0, .bool t.f1, .slice A2 t.f2.length c2, .slice (some ad) t.f3.length c3, .slice (some ⟨g, 0, none⟩) css.length q4]) (by simp))
        go_upto_region 8 with fail
        clear fa4 x0 x1 x2 x3 x4
        generalize (wr.setCell ⟨a, 4, none⟩ (.slice (some ⟨g, 0, none⟩) css.length q4)) = wr at *
        obtain ⟨x0, x1, x2, x3, x4⟩ := cells5 HL.out.pw.ba
        obtain ⟨b0, b1, b2, b3, b4⟩ := cells5 HL.out.pw.bc
        have f0 := blk_frozen HL.out.pw.bc 0
        have f1 := blk_frozen HL.out.pw.bc 1
        have f2 := blk_frozen HL.out.pw.bc 2
        have f3 := blk_frozen HL.out.pw.bc 3
        have f4 := blk_frozen HL.out.pw.bc 4
        have HF := Aside0.mk (fun p0 p1 p2 p3 p4 => box_same HL.out.pw.bc p0 p1 p2 p3 p4)
        go_wp2_with fail
        refine bodyPost_ret (results_cell_row rfl _ _ c 26 _ (0, 0) _ rfl (HF.out _ _ _ _ _) Tryd.underlying26 rfl (by kernel_rfl)) rfl ?_
        exact lay_fin HL.out (Below.refl _ w) HT.out.2 HX.out.1 HX.out.2 (fun w2 h2 => (HT.out.1.TR h2).2.1) (HTW.out w (Below.refl _ w)).1 rfl (by simp) (.inl ⟨fun w2 h2 => (HT.out.1.TR h2).2.2.2.1, hlc3⟩) (by simp [HCL.out]) (kids_set k (fun j x c hx hc => .inl (HCS.out j x c hx hc)) (.inr ⟨rfl, rfl⟩)) HR.out
      have hnlt : Op.bytesLess s.toList n.toList = false := by
        have h2 := pos_not0 (l := t.f3) (n := n) (by rw [HI.out]; exact h1)
        simp only [HI.out] at h2
        rw [hs] at h2
        exact h2
      have HHAS : Aside0 (hasS t.f3 n = (s.toList == n.toList)) := ⟨by
        unfold hasS
        rw [HI.out, List.getElem?_eq_getElem h1, hs, Bool.eq_iff_iff, decide_eq_true_iff, beq_iff_eq]
        exact ⟨fun e => by rw [Option.some.inj e], fun e => by rw [ba_eq.1 e]⟩⟩
      have HR : Aside0 (layS t n x = ⟨t.f0, t.f1, t.f2, t.f3.take k ++ n :: t.f3.drop k, t.f4.take k ++ x :: t.f4.drop k⟩) := ⟨by unfold layS; rw [if_neg (show ¬ hasS t.f3 n = true by rw [HHAS.out, heq]; simp), HI.out]⟩
      have hkl : (k : Int) < (t.f3.length : Int) := by omega
      have hcn : ∃ ad, A3 = some ad ∧ wr.cell? (ad.add k) = some (.string s) := by
        obtain ⟨ad, hA, hcn⟩ := NM.out k h1 wr HW.out.bel
        rw [hs] at hcn
        exact ⟨ad, hA, hcn⟩
      obtain ⟨ad, hA, hcn⟩ := hcn
      subst hA
      clear hs
      go_upto_region 9 with fail
      clear hcn hnlt heq h1 hkl HHAS
      obtain ⟨A3, hA3⟩ : ∃ q, (some ad : Option Addr) = q := ⟨_, rfl⟩
      rw [hA3] at HT HTW HKT HCN NM HW x3 ⊢
      clear hA3
      rotate_left
      have HHAS : Aside0 (hasS t.f3 n = false) := ⟨by
        unfold hasS
        rw [HI.out, List.getElem?_eq_none (by omega)]
        rfl⟩
      have HR : Aside0 (layS t n x = ⟨t.f0, t.f1, t.f2, t.f3.take k ++ n :: t.f3.drop k, t.f4.take k ++ x :: t.f4.drop k⟩) := ⟨by unfold layS; rw [if_neg (show ¬ hasS t.f3 n = true by rw [HHAS.out]; simp), HI.out]⟩
      have hkl : ¬ (k : Int) < (t.f3.length : Int) := by omega
      go_upto_region 9 with fail
      clear h1 hkl HHAS
      all_goals (
        obtain ⟨n7, hn7⟩ : ∃ q, wr.heap.size = q := ⟨_, rfl⟩
        have HL : Aside0 (LW w wr n7 a b c _ _ _ (.slice none 0 0) (.slice none 0 0) [] []) := ⟨⟨HW.out, by rw [← hn7]; exact ⟨blk_lt HW.out.ba, blk_lt HW.out.bb, blk_lt HW.out.bc⟩, by rw [← hn7]; exact HW.out.bel.size, Nat.le_of_eq hn7.symm, Kd.R_nil _ _ _ _ _, Kd.R_nil _ _ _ _ _⟩⟩
        clear hn7 HW
        have hk3 : (k : Int) ≤ (c3 : Int) := by omega
        have hk4 : (k : Int) ≤ (c4 : Int) := by have := HLEN.out; omega
        have hkl4 : k ≤ css.length := by have := HCL.out; have := HLEN.out; omega
        have HT3 : Aside0 (∀ W : World, Below w.heap.size w W → Kd.string.C W A3 k (t.f3.take k)) := ⟨fun W hW => by have h9 := Kd.C_take (HCN.out W hW) hil; rw [List.length_take, Nat.min_eq_left hil] at h9; exact h9⟩
        have HT4 : Aside0 (∀ W : World, Below w.heap.size w W → kraw.C W A4 k (css.take k)) := ⟨fun W hW => by have h8 := HRAW.out W hW; rw [← HCL.out] at h8; have h9 := Kd.C_take h8 hkl4; rw [List.length_take, Nat.min_eq_left hkl4] at h9; exact h9⟩
        obtain ⟨P3, hP3⟩ : ∃ q, (if c3 = k then A3 else A3.map (·.add (k * 1))) = q := ⟨_, rfl⟩
        obtain ⟨P4, hP4⟩ : ∃ q, (if c4 = k then A4 else A4.map (·.add (k * 5))) = q := ⟨_, rfl⟩
        have hcut3 : ∀ W : World, (Instr.slice 23 (.slice A3 t.f3.length c3) (some (.int .i64 (k : Int))) none none).run Tryd.prog W = .ok (.slice P3 (t.f3.length - k) (c3 - k)) W := by
          obtain ⟨i9, hi9, hz9⟩ := Option.map_eq_some_iff.1 info9
          have h9 := cut_from (P := Tryd.prog) 23 9 .i64 Tryd.underlying23 hi9 1 (by simpa using (congrArg (fun z => z.2.1) hz9)) A3 t.f3.length c3 (k : Int) (by omega) (by omega)
          rw [Int.toNat_natCast, hP3] at h9
          exact h9
        have hcut4 : ∀ W : World, (Instr.slice 24 (.slice A4 t.f4.length c4) (some (.int .i64 (k : Int))) none none).run Tryd.prog W = .ok (.slice P4 (t.f4.length - k) (c4 - k)) W := by
          obtain ⟨i9, hi9, hz9⟩ := Option.map_eq_some_iff.1 info26
          have h9 := cut_from (P := Tryd.prog) 24 26 .i64 Tryd.underlying24 hi9 5 (by simpa using (congrArg (fun z => z.2.1) hz9)) A4 t.f4.length c4 (k : Int) (by omega) (by have := HLEN.out; omega)
          rw [Int.toNat_natCast, hP4] at h9
          exact h9
        have HD3 : Aside0 (∀ W : World, Below w.heap.size w W → Kd.string.C W P3 (t.f3.length - k) (t.f3.drop k)) := ⟨fun W hW => by
          have h9 := Kd.C_drop (HCN.out W hW) hil hlc3
          rw [List.length_drop] at h9
          rw [← hP3]
          exact h9⟩
        have HD4 : Aside0 (∀ W : World, Below w.heap.size w W → kraw.C W P4 (t.f4.length - k) (css.drop k)) := ⟨fun W hW => by
          have h8 := HRAW.out W hW
          rw [← HCL.out] at h8
          have h9 := Kd.C_drop (c := c4) h8 hkl4 (by rw [HCL.out]; exact hlc4)
          rw [List.length_drop, HCL.out] at h9
          rw [← hP4]
          exact h9⟩
        clear hP3 hP4
        have HK1 := Aside0.mk (k26.K_one HX.out.1.here)
        go_upto_region 10 with (first | ((with_reducible refine gate_dst (N := 52) rfl ?_); refine Kd.R_lit Kd.string n7 9 ?hg (N := 52) ?hd (xs := ([] : List ByteArray)) (inner := []) (ok := fun _ => True) (okp := fun _ => True) ?hr ?hp (fun _ hk => hk) trivial (Below.refl _ _) HL.out.sz (by simp) ?_; (case hd => rfl); (case hg => rfl); (case hr => first | (go_simp; done) | (go_simp; rfl)); (case hp => exact (Reps.none _ _)); intro v1 w1 ho hb hg hnew; have HL := Aside0.mk (HL.out.lit3 ho hb hg); obtain ⟨V1, e1, rfl⟩ := Kd.R_slice ho; clear ho hb hg hnew; generalize w1 = wr at *; clear x0 x1 x2 x3 x4; obtain ⟨x0, x1, x2, x3, x4⟩ := cells5 HL.out.pw.ba) | ((with_reducible refine gate_builtin (b := .append) (xs := #[.tmp 52, .tmp 56]) rfl ?_); at_builtin; refine Kd.R_append_rows Kd.string n7 rfl (.tmp 52) (.tmp 56) 23 9 (.string ByteArray.empty) 16 rfl Tryd.underlying23 (by kernel_rfl) rfl (by decide) (by decide) _ [] (t.f3.take k) _ _ _ (fun _ => True) (fun _ => False) rfl rfl HL.out.rn (HT3.out _ HL.out.pw.bel) (fun _ _ h => h) (fun _ h => h.elim) (fun _ _ => trivial) (Below.refl _ _) HL.out.sz (by rw [List.length_nil]; omega) ?_; intro vN1 w2 ho hb hg hat; have HL := Aside0.mk (HL.out.app3 ho hb hg); clear ho hb hg hat; clear x0 x1 x2 x3 x4; generalize w2 = wr at *))
        have HL : Aside0 (LW w wr n7 a b c _ _ _ vN1 _ (t.f3.take k) []) := ⟨HL.out⟩
        go_upto_region 11 with (first | ((with_reducible refine gate_dst (N := 60) rfl ?_); refine Kd.R_lit Kd.string n7 9 ?hg (N := 60) ?hd (xs := [n]) (inner := [.string n]) (ok := fun _ => True) (okp := fun _ => True) ?hr ?hp (fun _ hk => hk) trivial (Below.refl _ _) HL.out.sz (by simp) ?_; (case hd => rfl); (case hg => rfl); (case hr => first | (go_simp; done) | (go_simp; rfl)); (case hp => exact (Reps.snoc (Reps.none _ _) (show Kd.string.M _ _ _ n [.string n] from rfl) rfl)); intro v1 w1 ho hb hg hnew; have HL := Aside0.mk (HL.out.lit hb hg); obtain ⟨V1, e1, rfl⟩ := Kd.R_slice ho; have HLI := Aside0.mk (Kd.R_reads' ho).2.2; clear ho hb hg hnew; generalize w1 = wr at *) | ((with_reducible refine gate_builtin (b := .append) (xs := #[.tmp 58, .tmp 60]) rfl ?_); at_builtin; refine Kd.R_append_rows Kd.string n7 rfl (.tmp 58) (.tmp 60) 23 9 (.string ByteArray.empty) 16 rfl Tryd.underlying23 (by kernel_rfl) rfl (by decide) (by decide) vN1 (t.f3.take k) [n] _ _ _ (fun _ => True) (fun _ => False) rfl rfl HL.out.rn HLI.out (fun _ _ h => h) (fun _ h => h.elim) (fun _ _ => trivial) (Below.refl _ _) HL.out.sz (by rw [List.length_take]; simp; omega) ?_; intro vN2 w2 ho hb hg hat; have HL := Aside0.mk (HL.out.app3 ho hb hg); clear ho hb hg hat HLI; generalize w2 = wr at *))
        obtain ⟨x0, x1, x2, x3, x4⟩ := cells5 HL.out.pw.ba
        go_upto_region 12 with (first | ((with_reducible refine gate_dst (N := 62) rfl ?_); refine Kd.R_lit kraw n7 26 ?hg (N := 62) ?hd (xs := ([] : List (List Value))) (inner := []) (ok := fun _ => True) (okp := fun _ => True) ?hr ?hp (fun _ hk => hk) trivial (Below.refl _ _) HL.out.sz (by simp) ?_; (case hd => rfl); (case hg => rfl); (case hr => first | (go_simp; done) | (go_simp; rfl)); (case hp => exact (Reps.none _ _)); intro v1 w1 ho hb hg hnew; have HL := Aside0.mk (HL.out.lit4 ho hb hg); obtain ⟨V1, e1, rfl⟩ := Kd.R_slice ho; clear ho hb hg hnew; generalize w1 = wr at *; clear x0 x1 x2 x3 x4; obtain ⟨x0, x1, x2, x3, x4⟩ := cells5 HL.out.pw.ba) | ((with_reducible refine gate_builtin (b := .append) (xs := #[.tmp 62, .tmp 66]) rfl ?_); at_builtin; refine Kd.R_append_rows kraw n7 rfl (.tmp 62) (.tmp 66) 24 26 (.agg #[.int .i64 0, .bool false, .slice none 0 0, .slice none 0 0, .slice none 0 0]) 88 rfl Tryd.underlying24 (by kernel_rfl) rfl (by decide) (by decide) _ [] (css.take k) _ _ _ (fun _ => True) (fun _ => False) rfl rfl HL.out.rk (HT4.out _ HL.out.pw.bel) (fun _ _ h => h) (fun _ h => h.elim) (fun _ _ => trivial) (Below.refl _ _) HL.out.sz (by rw [List.length_nil]; omega) ?_; intro vK1 w2 ho hb hg hat; have HL := Aside0.mk (HL.out.app4 ho hb hg); clear ho hb hg hat; clear x0 x1 x2 x3 x4; generalize w2 = wr at *))
        have HL : Aside0 (LW w wr n7 a b c _ _ _ vN2 vK1 _ (css.take k)) := ⟨HL.out⟩
        obtain ⟨x0, x1, x2, x3, x4⟩ := cells5 HL.out.pw.bb
        go_upto_region 13 with (first | ((with_reducible refine gate_dst (N := 70) rfl ?_); refine Kd.R_lit kraw n7 26 ?hg (N := 70) ?hd (xs := [[.int .i64 x.f0, .bool x.f1, .slice B2 x.f2.length d2, .slice B3 x.f3.length d3, .slice B4 x.f4.length d4]]) (inner := [.int .i64 x.f0, .bool x.f1, .slice B2 x.f2.length d2, .slice B3 x.f3.length d3, .slice B4 x.f4.length d4]) (ok := fun _ => True) (okp := fun _ => True) ?hr ?hp (fun _ hk => hk) trivial (Below.refl _ _) HL.out.sz (by simp) ?_; (case hd => rfl); (case hg => rfl); (case hr => first | (go_simp; done) | (go_simp; rfl)); (case hp => exact (Reps.snoc (Reps.none _ _) (show kraw.M _ _ _ [.int .i64 x.f0, .bool x.f1, .slice B2 x.f2.length d2, .slice B3 x.f3.length d3, .slice B4 x.f4.length d4] [.int .i64 x.f0, .bool x.f1, .slice B2 x.f2.length d2, .slice B3 x.f3.length d3, .slice B4 x.f4.length d4] from ⟨rfl, rfl, HK1.out⟩) rfl)); intro v1 w1 ho hb hg hnew; have HL := Aside0.mk (HL.out.lit hb hg); obtain ⟨V1, e1, rfl⟩ := Kd.R_slice ho; have HLI := Aside0.mk (Kd.R_reads' ho).2.2; clear ho hb hg hnew; generalize w1 = wr at *) | ((with_reducible refine gate_builtin (b := .append) (xs := #[.tmp 68, .tmp 70]) rfl ?_); at_builtin; refine Kd.R_append_rows kraw n7 rfl (.tmp 68) (.tmp 70) 24 26 (.agg #[.int .i64 0, .bool false, .slice none 0 0, .slice none 0 0, .slice none 0 0]) 88 rfl Tryd.underlying24 (by kernel_rfl) rfl (by decide) (by decide) vK1 (css.take k) [[.int .i64 x.f0, .bool x.f1, .slice B2 x.f2.length d2, .slice B3 x.f3.length d3, .slice B4 x.f4.length d4]] _ _ _ (fun _ => True) (fun _ => False) rfl rfl HL.out.rk HLI.out (fun _ _ h => h) (fun _ h => h.elim) (fun _ _ => trivial) (Below.refl _ _) HL.out.sz (by rw [List.length_take]; simp; omega) ?_; intro vK2 w2 ho hb hg hat; have HL := Aside0.mk (HL.out.app4 ho hb hg); clear ho hb hg hat HLI; clear x0 x1 x2 x3 x4; generalize w2 = wr at *))
        obtain ⟨x0, x1, x2, x3, x4⟩ := cells5 HL.out.pw.ba
        have HL : Aside0 (LW w wr n7 a b c _ _ _ vN2 vK2 _ _) := HL
        obtain ⟨ns', hns⟩ : ∃ q, t.f3.take k ++ [n] ++ t.f3.drop k = q := ⟨_, rfl⟩
        obtain ⟨cst, hcst⟩ : ∃ q, css.take k ++ [[.int .i64 x.f0, .bool x.f1, .slice B2 x.f2.length d2, .slice B3 x.f3.length d3, .slice B4 x.f4.length d4]] ++ css.drop k = q := ⟨_, rfl⟩
        have HNS := Aside0.mk hns
        have HCST := Aside0.mk hcst
        clear hns hcst
        go_upto_region 14 with (((with_reducible refine gate_builtin (b := .append) (xs := #[.tmp 72, .tmp 76]) rfl ?_); at_builtin; refine Kd.R_append_rows Kd.string n7 rfl (.tmp 72) (.tmp 76) 23 9 (.string ByteArray.empty) 16 rfl Tryd.underlying23 (by kernel_rfl) rfl (by decide) (by decide) vN2 (t.f3.take k ++ [n]) (t.f3.drop k) _ _ _ (fun _ => True) (fun _ => False) rfl rfl HL.out.rn (HD3.out _ HL.out.pw.bel) (fun _ _ h => h) (fun _ h => h.elim) (fun _ _ => trivial) (Below.refl _ _) HL.out.sz (by rw [List.length_append, List.length_take]; simp; omega) ?_; intro vN3 w2 ho hb hg hat; rw [HNS.out] at ho; have HL := Aside0.mk (HL.out.app3 ho hb hg); obtain ⟨S3, q3, rfl⟩ := Kd.R_slice ho; clear ho hb hg hat; clear x0 x1 x2 x3 x4; generalize w2 = wr at *; obtain ⟨x0, x1, x2, x3, x4⟩ := cells5 HL.out.pw.ba; have fa3 := blk_frozen HL.out.pw.ba 3))
        clear fa3 x0 x1 x2 x3 x4
        have HL := Aside0.mk (HL.out.seta 3 (.slice S3 ns'.length q3) (oa' := #[.int .i64 t.f0, .bool t.f1, .slice A2 t.f2.length c2, .slice S3 ns'.length q3, .slice A4 t.f4.length c4]) (by simp))
        generalize (wr.setCell ⟨a, 3, none⟩ (.slice S3 ns'.length q3)) = wr at *
        obtain ⟨x0, x1, x2, x3, x4⟩ := cells5 HL.out.pw.ba
        go_upto_region 15 with (((with_reducible refine gate_builtin (b := .append) (xs := #[.tmp 79, .tmp 83]) rfl ?_); at_builtin; refine Kd.R_append_rows kraw n7 rfl (.tmp 79) (.tmp 83) 24 26 (.agg #[.int .i64 0, .bool false, .slice none 0 0, .slice none 0 0, .slice none 0 0]) 88 rfl Tryd.underlying24 (by kernel_rfl) rfl (by decide) (by decide) vK2 (css.take k ++ [[.int .i64 x.f0, .bool x.f1, .slice B2 x.f2.length d2, .slice B3 x.f3.length d3, .slice B4 x.f4.length d4]]) (css.drop k) _ _ _ (fun _ => True) (fun _ => False) rfl rfl HL.out.rk (HD4.out _ HL.out.pw.bel) (fun _ _ h => h) (fun _ h => h.elim) (fun _ _ => trivial) (Below.refl _ _) HL.out.sz (by rw [List.length_append, List.length_take]; simp; have := HCL.out; omega) ?_; intro vK3 w2 ho hb hg hat; rw [HCST.out] at ho; have HL := Aside0.mk (HL.out.app4 ho hb hg); obtain ⟨S4, q4, rfl⟩ := Kd.R_slice ho; clear ho hb hg hat; clear x0 x1 x2 x3 x4; generalize w2 = wr at *; obtain ⟨x0, x1, x2, x3, x4⟩ := cells5 HL.out.pw.ba; have fa4 := blk_frozen HL.out.pw.ba 4))
        clear fa4 x0 x1 x2 x3 x4
        have HL := Aside0.mk (HL.out.seta 4 (.slice S4 cst.length q4) (oa' := #[.int .i64 t.f0, .bool t.f1, .slice A2 t.f2.length c2, .slice S3 ns'.length q3, .slice S4 cst.length q4]) (by simp))
        generalize (wr.setCell ⟨a, 4, none⟩ (.slice S4 cst.length q4)) = wr at *
        obtain ⟨x0, x1, x2, x3, x4⟩ := cells5 HL.out.pw.ba
        obtain ⟨b0, b1, b2, b3, b4⟩ := cells5 HL.out.pw.bc
        have f0 := blk_frozen HL.out.pw.bc 0
        have f1 := blk_frozen HL.out.pw.bc 1
        have f2 := blk_frozen HL.out.pw.bc 2
        have f3 := blk_frozen HL.out.pw.bc 3
        have f4 := blk_frozen HL.out.pw.bc 4
        have HF := Aside0.mk (fun p0 p1 p2 p3 p4 => box_same HL.out.pw.bc p0 p1 p2 p3 p4)
        go_wp2_with fail
        refine bodyPost_ret (results_cell_row rfl _ _ c 26 _ (0, 0) _ rfl (HF.out _ _ _ _ _) Tryd.underlying26 rfl (by kernel_rfl)) rfl ?_
        exact lay_fin HL.out (Below.refl _ w) HT.out.2 HX.out.1 HX.out.2 (fun w2 h2 => (HT.out.1.TR h2).2.1) (HTW.out w (Below.refl _ w)).1 (by rw [← HNS.out]; simp) rfl (.inr ⟨rfl, by rw [← HNS.out]; simp⟩) (by rw [← HCST.out]; have h1 := HCL.out; have h2 := HLEN.out; simp [h1]) (fun j y cy hy hcy => kids_ins (P := fun z q => KG D0 w z q ∨ (z = x ∧ q = cs5 x B2 d2 B3 d3 B4 d4)) k (by have := HLEN.out; omega) HCL.out (fun j z q hz hq => .inl (HCS.out j z q hz hq)) (.inr ⟨rfl, rfl⟩) j y cy hy (by rw [← HCST.out] at hcy; simpa using hcy)) HR.out)
end Go.Proofs.YtfnofjcdaghniaaDoor.Tree
/- the reference's put, walked. Own work; printed by gen_rp.py. -/
namespace Go.Proofs.YtfnofjcdaghniaaDoor.Tree
set_option linter.unusedVariables false
set_option linter.unusedSimpArgs false
open Go.RowKit Go.Proofs.YtfnofjcdaghniaaDoor.PL Go.Proofs.YtfnofjcdaghniaaDoor.Mt Go.Proofs.YtfnofjcdaghniaaDoorW.PrintWords Go.Proofs.YtfnofjcdaghniaaDoorW.PrintLast Go.Proofs.YtfnofjcdaghniaaDoorW.PrintMore
/-- the reference's put, as a plain function -/
def rputS : List ByteArray → S26 → S26 → S26 × Bool
  | [], _, x => (x, true)
  | n :: l, t, x => if t.f0 ≠ 2 then (t, false) else (layS t n (rputS l (if hasS t.f3 n = true then t.f4.getD (posS t.f3 n) dir0 else dir0) x).1, (rputS l (if hasS t.f3 n = true then t.f4.getD (posS t.f3 n) dir0 else dir0) x).2)
theorem rput_put : ∀ (l : List ByteArray) (t x : S26), ((rputS l t x).2 = true ∧ putS l t x = ((rputS l t x).1, 0)) ∨ ((rputS l t x).2 = false ∧ putS l t x = (z0, 8)) := by
  intro l
  induction l with
  | nil => intro t x; exact .inl ⟨rfl, rfl⟩
  | cons n l ih =>
    intro t x
    by_cases h2 : t.f0 = 2
    · rw [rputS, if_neg (by simpa using h2)]
      cases hh : hasS t.f3 n with
      | true =>
        rw [if_pos rfl]
        rcases ih (t.f4.getD (posS t.f3 n) dir0) x with ⟨h3, h4⟩ | ⟨h3, h4⟩
        · refine .inl ⟨h3, ?_⟩
          rw [putS_ok_t h2 hh rfl h4]
          simp only
          unfold layS
          rw [if_pos hh]
        · exact .inr ⟨h3, putS_err_t h2 hh rfl h4 (by decide)⟩
      | false =>
        rw [if_neg (by simp)]
        rcases ih dir0 x with ⟨h3, h4⟩ | ⟨h3, h4⟩
        · refine .inl ⟨h3, ?_⟩
          rw [putS_ok_f h2 hh h4]
          simp only
          unfold layS
          rw [if_neg (by rw [hh]; simp)]
        · exact .inr ⟨h3, putS_err_f h2 hh h4 (by decide)⟩
    · rw [rputS, if_pos h2]
      exact .inr ⟨rfl, by rw [putS, if_pos h2]⟩
def RPutP (D0 : Nat → Prop) (w : World) (T : S26 × Bool) (e : Ending) (w' : World) : Prop := ∃ A2 c2 A3 c3 A4 c4, e = .returned (.tuple #[TV T.1 A2 c2 A3 c3 A4 c4, .bool T.2]) ∧ KG (fun k => D0 k ∨ (w.heap.size ≤ k ∧ k < w'.heap.size)) w' T.1 (cs5 T.1 A2 c2 A3 c3 A4 c4) ∧ Below w.heap.size w w'
theorem RPutP.of {D0 : Nat → Prop} {w w' : World} {x : S26} {k : Bool} {R : S26 × Bool} (hR : R = (x, k)) {A2 : Option Addr} {c2 : Nat} {A3 : Option Addr} {c3 : Nat} {A4 : Option Addr} {c4 : Nat} (ht : KG (fun k => D0 k ∨ (w.heap.size ≤ k ∧ k < w'.heap.size)) w' x (cs5 x A2 c2 A3 c3 A4 c4)) (hb : Below w.heap.size w w') :
    RPutP D0 w R (.returned (.tuple #[.agg #[.int .i64 x.f0, .bool x.f1, .slice A2 x.f2.length c2, .slice A3 x.f3.length c3, .slice A4 x.f4.length c4], .bool k])) w' := by
  subst hR
  exact ⟨A2, c2, A3, c3, A4, c4, rfl, ht, hb⟩
set_option maxRecDepth 20000 in
set_option maxHeartbeats 8000000 in
theorem rput_nil (t : S26) (T2 : Option Addr) (e2 : Nat) (T3 : Option Addr) (e3 : Nat) (T4 : Option Addr) (e4 : Nat) (x : S26) (A2 : Option Addr) (c2 : Nat) (A3 : Option Addr) (c3 : Nat) (A4 : Option Addr) (c4 : Nat) (LA : Option Addr) (lc : Nat) (D0 : Nat → Prop) (w0 w : World) (hB : Below w0.heap.size w0 w) (hD : ∀ k, D0 k → k < w0.heap.size) (ht : KG D0 w0 t (cs5 t T2 e2 T3 e3 T4 e4)) (hx : KG D0 w0 x (cs5 x A2 c2 A3 c3 A4 c4)) :
    Calls Tryd.prog 40 #[TV t T2 e2 T3 e3 T4 e4, .slice LA 0 lc, TV x A2 c2 A3 c3 A4 c4] w (RPutP D0 w (x, true)) := by
  have HX := Aside0.mk (And.intro hx (And.intro hB (And.intro ht hD)))
  clear hx hB ht hD
  have HW := Aside0.mk (PW.enter w t x T2 e2 T3 e3 T4 e4 A2 c2 A3 c3 A4 c4)
  go_enter Tryd.func40, Tryd.ntmps40
  go_upto_region 1 with fail
  generalize (((w.alloc (bx t T2 e2 T3 e3 T4 e4)).alloc (bx x A2 c2 A3 c3 A4 c4)).alloc (.cells #[.int .i64 0, .bool false, .slice none 0 0, .slice none 0 0, .slice none 0 0] 26)) = w3 at *
  obtain ⟨a, ha⟩ : ∃ q, w.heap.size = q := ⟨_, rfl⟩
  rw [ha] at HW ⊢
  clear ha
  obtain ⟨b, hb⟩ : ∃ q, a + 1 = q := ⟨_, rfl⟩
  rw [hb] at HW ⊢
  clear hb
  obtain ⟨c, hc⟩ : ∃ q, b + 1 = q := ⟨_, rfl⟩
  rw [hc] at HW ⊢
  clear hc
  obtain ⟨x0, x1, x2, x3, x4⟩ := cells5 HW.out.bb
  obtain ⟨b0, b1, b2, b3, b4⟩ := cells5 HW.out.bc
  have f0 := blk_frozen HW.out.bc 0
  have f1 := blk_frozen HW.out.bc 1
  have f2 := blk_frozen HW.out.bc 2
  have f3 := blk_frozen HW.out.bc 3
  have f4 := blk_frozen HW.out.bc 4
  have HF := Aside0.mk (HW.out.setc (.int .i64 x.f0) (.bool x.f1) (.slice A2 x.f2.length c2) (.slice A3 x.f3.length c3) (.slice A4 x.f4.length c4))
  go_wp2_with fail
  refine bodyPost_ret (results_c1 rfl _ _ c 26 _ (0, 0) _ rfl HF.out.bc Tryd.underlying26 rfl (by kernel_rfl)) rfl ?_
  exact RPutP.of rfl ((HX.out.1.move (Fr.below (below_then HX.out.2.1 HX.out.2.1.size HF.out.bel) HX.out.2.2.2)).mono (fun k hk => .inl hk)) HF.out.bel
set_option maxRecDepth 20000 in
set_option maxHeartbeats 8000000 in
theorem rput_file (n : ByteArray) (l : List ByteArray) (t : S26) (T2 : Option Addr) (e2 : Nat) (T3 : Option Addr) (e3 : Nat) (T4 : Option Addr) (e4 : Nat) (x : S26) (A2 : Option Addr) (c2 : Nat) (A3 : Option Addr) (c3 : Nat) (A4 : Option Addr) (c4 : Nat) (LA : Option Addr) (lc : Nat) (D0 : Nat → Prop) (w0 w : World) (hB : Below w0.heap.size w0 w) (hD : ∀ k, D0 k → k < w0.heap.size) (ht : KG D0 w0 t (cs5 t T2 e2 T3 e3 T4 e4)) (hx : KG D0 w0 x (cs5 x A2 c2 A3 c3 A4 c4)) (h2 : t.f0 ≠ 2) (hl : l.length ≤ 1000000) :
    Calls Tryd.prog 40 #[TV t T2 e2 T3 e3 T4 e4, .slice LA (l.length + 1) lc, TV x A2 c2 A3 c3 A4 c4] w (RPutP D0 w (t, false)) := by
  have HX := Aside0.mk (And.intro hx (And.intro hB (And.intro ht hD)))
  have hk : (t.f0 != 2) = true := by simpa using h2
  have hl0 : (((l.length : Nat) : Int) + 1 == 0) = false := beq_eq_false_iff_ne.2 (by omega)
  clear hx hB ht hD h2
  have HW := Aside0.mk (PW.enter w t x T2 e2 T3 e3 T4 e4 A2 c2 A3 c3 A4 c4)
  go_enter Tryd.func40, Tryd.ntmps40
  go_upto_region 1 with fail
  generalize (((w.alloc (bx t T2 e2 T3 e3 T4 e4)).alloc (bx x A2 c2 A3 c3 A4 c4)).alloc (.cells #[.int .i64 0, .bool false, .slice none 0 0, .slice none 0 0, .slice none 0 0] 26)) = w3 at *
  obtain ⟨a, ha⟩ : ∃ q, w.heap.size = q := ⟨_, rfl⟩
  rw [ha] at HW ⊢
  clear ha
  obtain ⟨b, hb⟩ : ∃ q, a + 1 = q := ⟨_, rfl⟩
  rw [hb] at HW ⊢
  clear hb
  obtain ⟨c, hc⟩ : ∃ q, b + 1 = q := ⟨_, rfl⟩
  rw [hc] at HW ⊢
  clear hc
  obtain ⟨x0, x1, x2, x3, x4⟩ := cells5 HW.out.ba
  obtain ⟨b0, b1, b2, b3, b4⟩ := cells5 HW.out.bc
  have f0 := blk_frozen HW.out.bc 0
  have f1 := blk_frozen HW.out.bc 1
  have f2 := blk_frozen HW.out.bc 2
  have f3 := blk_frozen HW.out.bc 3
  have f4 := blk_frozen HW.out.bc 4
  have HF := Aside0.mk (HW.out.setc (.int .i64 t.f0) (.bool t.f1) (.slice T2 t.f2.length e2) (.slice T3 t.f3.length e3) (.slice T4 t.f4.length e4))
  go_wp2_with fail
  refine bodyPost_ret (results_c1 rfl _ _ c 26 _ (0, 0) _ rfl HF.out.bc Tryd.underlying26 rfl (by kernel_rfl)) rfl ?_
  exact RPutP.of rfl ((HX.out.2.2.1.move (Fr.below (below_then HX.out.2.1 HX.out.2.1.size HF.out.bel) HX.out.2.2.2)).mono (fun k hk => .inl hk)) HF.out.bel
set_option maxRecDepth 20000 in
set_option maxHeartbeats 8000000 in
theorem rput_dir (n : ByteArray) (l : List ByteArray) (N : Nat) (t : S26) (T2 : Option Addr) (e2 : Nat) (T3 : Option Addr) (e3 : Nat) (T4 : Option Addr) (e4 : Nat) (x : S26) (A2 : Option Addr) (c2 : Nat) (A3 : Option Addr) (c3 : Nat) (A4 : Option Addr) (c4 : Nat) (LA : Option Addr) (lc : Nat) (D0 : Nat → Prop) (w0 w : World) (hB : Below w0.heap.size w0 w) (hD : ∀ k, D0 k → k < w0.heap.size) (ht : KG D0 w0 t (cs5 t T2 e2 T3 e3 T4 e4)) (hx : KG D0 w0 x (cs5 x A2 c2 A3 c3 A4 c4)) (h2 : t.f0 = 2) (hl : l.length ≤ 1000000)
    (hL : Kd.string.C w0 LA (n :: l).length (n :: l)) (hlc : (n :: l).length ≤ lc) (ho : Okt (N + 1) t)
    (ih : ∀ (N : Nat) (t : S26) (T2 : Option Addr) (e2 : Nat) (T3 : Option Addr) (e3 : Nat) (T4 : Option Addr) (e4 : Nat) (x : S26) (A2 : Option Addr) (c2 : Nat) (A3 : Option Addr) (c3 : Nat) (A4 : Option Addr) (c4 : Nat) (LA : Option Addr) (lc : Nat) (w : World), Below w0.heap.size w0 w → KG D0 w0 t (cs5 t T2 e2 T3 e3 T4 e4) → KG D0 w0 x (cs5 x A2 c2 A3 c3 A4 c4) → Kd.string.C w0 LA l.length l → l.length ≤ lc → Okt (N + 1) t →
      Calls Tryd.prog 40 #[TV t T2 e2 T3 e3 T4 e4, .slice LA l.length lc, TV x A2 c2 A3 c3 A4 c4] w (RPutP D0 w (rputS l t x))) :
    Calls Tryd.prog 40 #[TV t T2 e2 T3 e3 T4 e4, .slice LA (l.length + 1) lc, TV x A2 c2 A3 c3 A4 c4] w (RPutP D0 w (rputS (n :: l) t x)) := by
  have IH := Aside0.mk ih
  have HX := Aside0.mk (And.intro ht (And.intro hx hL))
  have HBW := Aside0.mk hB
  have HO := Aside0.mk ho
  have hk : (t.f0 != 2) = false := by simp [h2]
  have hl0 : (((l.length : Nat) : Int) + 1 == 0) = false := beq_eq_false_iff_ne.2 (by omega)
  have hlc : l.length + 1 ≤ lc := hlc
  have hl3 := ho.2.2.1
  obtain ⟨ad, hA, hcn⟩ := Kd.at_string hL (0 : Int) (by omega) (by rw [List.length_cons]; omega)
  subst hA
  have hrn : rdOf ByteArray.empty (n :: l) (0 : Int) = n := rfl
  rw [hrn] at hcn
  have HCN := Aside0.mk hcn
  have H2 := Aside0.mk h2
  have HDD := Aside0.mk hD
  clear ih ht hx hL ho hcn hrn h2 hB hD
  have HW := Aside0.mk (PW.enter w t x T2 e2 T3 e3 T4 e4 A2 c2 A3 c3 A4 c4)
  go_enter Tryd.func40, Tryd.ntmps40
  go_upto_region 1 with fail
  generalize (((w.alloc (bx t T2 e2 T3 e3 T4 e4)).alloc (bx x A2 c2 A3 c3 A4 c4)).alloc (.cells #[.int .i64 0, .bool false, .slice none 0 0, .slice none 0 0, .slice none 0 0] 26)) = w3 at *
  obtain ⟨a, ha⟩ : ∃ q, w.heap.size = q := ⟨_, rfl⟩
  rw [ha] at HW ⊢
  clear ha
  obtain ⟨b, hb⟩ : ∃ q, a + 1 = q := ⟨_, rfl⟩
  rw [hb] at HW ⊢
  clear hb
  obtain ⟨c, hc⟩ : ∃ q, b + 1 = q := ⟨_, rfl⟩
  rw [hc] at HW ⊢
  clear hc
  obtain ⟨x0, x1, x2, x3, x4⟩ := cells5 HW.out.ba
  have HAT : Aside0 (∀ W : World, Below w.heap.size w W → W.cell? ad = some (.string n)) := ⟨fun W hW => by have h9 := pw_cell_below (below_then HBW.out HBW.out.size hW) HCN.out; rw [show (0 : Int).toNat = 0 from rfl, add0] at h9; exact h9⟩
  go_upto_region 5 with fail
  clear x0 x1 x2 x3 x4
  have hb5 := below_alloc (Below.refl w3.heap.size w3) (.cells #[.int .i64 2, .bool false, .slice none 0 0, .slice none 0 0, .slice none 0 0] 26)
  have HD5 := Aside0.mk (heap_alloc_new w3 (.cells #[.int .i64 2, .bool false, .slice none 0 0, .slice none 0 0, .slice none 0 0] 26))
  have HW5 := Aside0.mk (HW.out.step hb5)
  have HDN : Aside0 (w3.heap.size ≠ a ∧ w3.heap.size ≠ b ∧ w3.heap.size ≠ c ∧ w.heap.size ≤ w3.heap.size) := ⟨by have := blk_lt HW.out.ba; have := blk_lt HW.out.bb; have := blk_lt HW.out.bc; have := HW.out.bel.size; omega⟩
  clear hb5 HW
  go_upto_region 6 with fail
  generalize (w3.alloc (.cells #[.int .i64 2, .bool false, .slice none 0 0, .slice none 0 0, .slice none 0 0] 26)) = w5 at *
  obtain ⟨d, hd⟩ : ∃ q, w3.heap.size = q := ⟨_, rfl⟩
  rw [hd] at HD5 HDN ⊢
  clear hd
  have hb9 : (0 : Int) < (l.length : Int) + 1 := by omega
  have h1le : (1 : Int) ≤ (l.length : Int) + 1 := by omega
  obtain ⟨LB, hLB⟩ : ∃ q : Option Addr, (if lc = 1 then some ad else some ⟨ad.block, ad.off + 1, none⟩) = q := ⟨_, rfl⟩
  have HLB : Aside0 (Kd.string.C w0 LB l.length l) := ⟨by
    have h9 := Kd.C_drop (m := 1) HX.out.2.2 (by rw [List.length_cons]; omega) (c := lc) hlc
    rw [← hLB]
    split
    · rename_i h8; rw [if_pos h8] at h9; exact h9
    · rename_i h8; rw [if_neg h8] at h9; exact h9⟩
  have HW5 := Aside0.mk (HW5.out.step (below_drew (Below.refl _ w5)))
  have HD5 : Aside0 (w5.drew.heap[d]? = some (.cells #[.int .i64 2, .bool false, .slice none 0 0, .slice none 0 0, .slice none 0 0] 26)) := ⟨HD5.out⟩
  obtain ⟨x0, x1, x2, x3, x4⟩ := cells5 HW5.out.ba
  refine start_ (n := 6) (S := fun w' => w'.cell? ⟨a, 0, none⟩ = some (.int .i64 t.f0) ∧ w'.cell? ⟨a, 1, none⟩ = some (.bool t.f1) ∧ w'.cell? ⟨a, 2, none⟩ = some (.slice T2 t.f2.length e2) ∧ w'.cell? ⟨a, 3, none⟩ = some (.slice T3 t.f3.length e3) ∧ w'.cell? ⟨a, 4, none⟩ = some (.slice T4 t.f4.length e4) ∧ w'.cell? ad = some (.string n)) (ds := []) #[false, false, false, false, false, false] (by kernel_rfl) rfl rfl ⟨x0, x1, x2, x3, x4, HAT.out _ HW5.out.bel⟩ (fun hHeld => ?_)
  clear x0 x1 x2 x3 x4
  generalize w5.drew = w5 at *
  refine pure_ (i := 1) (N := some 21) (v := ?_) (a' := ?_) #[false, true, false, false, false, false] rfl rfl (by kernel_rfl) (fun _ _ _ h => h) (Or.inl ⟨by rfl, ?_⟩) ?_ ?_
  rotate_left
  · intro w'
    go_simp
    with_reducible rfl
  rotate_left
  · simp only [Act.put, List.setIfInBounds_toArray, List.set_cons_zero, List.set_cons_succ]
    rfl
  refine pure_ (i := 2) (N := some 22) (v := ?_) (a' := ?_) #[false, true, true, false, false, false] rfl rfl (by kernel_rfl) (fun _ _ _ h => h) (Or.inl ⟨by rfl, ?_⟩) ?_ ?_
  rotate_left
  · intro w'
    go_simp
    with_reducible rfl
  rotate_left
  · simp only [Act.put, List.setIfInBounds_toArray, List.set_cons_zero, List.set_cons_succ]
    rfl
  refine take_ (i := 0) (N := some 20) (v := ?_) (a' := ?_) #[true, true, true, false, false, false] rfl rfl (by kernel_rfl) (fun _ _ _ h => h) (Or.inl ⟨by rfl, ?_⟩) hHeld ?_ ?_
  rotate_left
  · rintro w' ⟨s0, s1, s2, s3, s4, s5⟩
    go_simp
    with_reducible rfl
  rotate_left
  · simp only [Act.put, List.setIfInBounds_toArray, List.set_cons_zero, List.set_cons_succ]
    rfl
  refine take_ (i := 3) (N := some 23) (v := ?_) (a' := ?_) #[true, true, true, true, false, false] rfl rfl (by kernel_rfl) (fun _ _ _ h => h) (Or.inl ⟨by rfl, ?_⟩) hHeld ?_ ?_
  rotate_left
  · rintro w' ⟨s0, s1, s2, s3, s4, s5⟩
    go_simp
    with_reducible rfl
  rotate_left
  · simp only [Act.put, List.setIfInBounds_toArray, List.set_cons_zero, List.set_cons_succ]
    rfl
  obtain ⟨z, hz⟩ : ∃ q, findS t.f3 n = q := ⟨_, rfl⟩
  have HZF := Aside0.mk hz
  clear hz
  refine one_ (i := 4) (N := some 24) #[true, true, true, true, true, false] rfl rfl (by kernel_rfl) (by decide) (fun K hK => ?_)
  go_simp
  refine (find_any t T2 e2 T3 e3 T4 e4 n w5 (HX.out.1.TR (Fr.below (below_then HBW.out HBW.out.size HW5.out.bel) HDD.out)) HO.out.2.1 (by omega)).mono ?_
  rintro e w6 ⟨rfl, hb⟩
  rw [HZF.out]
  have HW5 := Aside0.mk (HW5.out.step hb)
  have HD5 := Aside0.mk ((hb.block _ (blk_lt HD5.out)).trans HD5.out)
  clear hb
  generalize w6 = w5 at *
  refine hK.out _ _ ⟨(blk_cell HW5.out.ba 0).trans rfl, (blk_cell HW5.out.ba 1).trans rfl, (blk_cell HW5.out.ba 2).trans rfl, (blk_cell HW5.out.ba 3).trans rfl, (blk_cell HW5.out.ba 4).trans rfl, HAT.out _ HW5.out.bel⟩ (fun hHeld => ?_)
  clear hK K
  refine pure_ (i := 5) (N := some 9) (v := ?_) (a' := ?_) #[true, true, true, true, true, true] rfl rfl (by kernel_rfl) (fun _ _ _ h => h) (Or.inl ⟨by rfl, ?_⟩) ?_ ?_
  rotate_left
  · intro w'
    go_simp
    with_reducible rfl
  rotate_left
  · simp only [Act.put, List.setIfInBounds_toArray, List.set_cons_zero, List.set_cons_succ]
    rfl
  refine done_ (by kernel_rfl) ?_
  clear hHeld
  obtain ⟨i, hi⟩ : ∃ q, posS t.f3 n = q := ⟨_, rfl⟩
  obtain ⟨h, hh⟩ : ∃ q, hasS t.f3 n = q := ⟨_, rfl⟩
  have HI := Aside0.mk (And.intro hi hh)
  clear hi hh
  cases h with
  | true =>
    have hil : i < t.f4.length := by
      have h1 := HI.out.1
      have h2 := HI.out.2
      have h3 := HO.out.1
      unfold hasS at h2
      rw [h1] at h2
      have := (List.getElem?_eq_some_iff.1 (of_decide_eq_true h2)).1
      omega
    obtain rfl : z = (i : Int) := by rw [← HZF.out, findS, if_pos HI.out.2, HI.out.1]
    have hnn : decide (0 ≤ (i : Int)) = true := decide_eq_true (by omega)
    obtain ⟨ad4, B2, d2, B3, d3, B4, d4, hA4, e0, e1, e2_, e3_, e4_, r1, r2, r3, r4, r5, r6⟩ := at_T26 (HX.out.1.TR (Fr.refl _ _)).2.2.2.2.2 (i : Int) (by omega) (by omega)
    obtain ⟨u, hu⟩ : ∃ x, rd_T26 t.f4 (i : Int) = x := ⟨_, rfl⟩
    have hue : t.f4[i] = u := by rw [← hu, rdT hil]
    rw [hu] at e0 e1 e2_ e3_ e4_ r1 r2 r3 r4 r5 r6
    rw [Int.toNat_natCast] at e0 e1 e2_ e3_ e4_
    have HTU : Aside0 (KG D0 w0 u (cs5 u B2 d2 B3 d3 B4 d4)) := ⟨KG.kid HX.out.1 (j := i) hA4 (by rw [List.getElem?_eq_getElem hil, hue]) rfl (fun j hj => by
      match j, hj with
      | 0, _ => exact e0
      | 1, _ => rw [add_field _ _ 1 (by omega)]; exact e1
      | 2, _ => rw [add_field _ _ 2 (by omega)]; exact e2_
      | 3, _ => rw [add_field _ _ 3 (by omega)]; exact e3_
      | 4, _ => rw [add_field _ _ 4 (by omega)]; exact e4_)⟩
    have HU : Aside0 (t.f4.getD i dir0 = u) := ⟨by rw [List.getD_eq_getElem?_getD, List.getElem?_eq_getElem hil]; exact hue⟩
    obtain ⟨N', hN'⟩ : ∃ q, N = q + 1 := ⟨N - 1, by
      have h1 := HO.out.2.2.2 _ (List.getElem_mem hil)
      cases N with
      | zero => exact h1.elim
      | succ q => omega⟩
    have HOU : Aside0 (Okt (N' + 1) u) := ⟨by rw [← hue, ← hN']; exact HO.out.2.2.2 _ (List.getElem_mem hil)⟩
    subst hA4
    have g0 := pw_cell_below (below_then HBW.out HBW.out.size HW5.out.bel) e0
    have g1 := pw_cell_below (below_then HBW.out HBW.out.size HW5.out.bel) e1
    have g2 := pw_cell_below (below_then HBW.out HBW.out.size HW5.out.bel) e2_
    have g3 := pw_cell_below (below_then HBW.out HBW.out.size HW5.out.bel) e3_
    have g4 := pw_cell_below (below_then HBW.out HBW.out.size HW5.out.bel) e4_
    have HRP : Aside0 (rputS (n :: l) t x = (layS t n (rputS l u x).1, (rputS l u x).2)) := ⟨by rw [rputS, if_neg (by simpa using H2.out), if_pos HI.out.2, HI.out.1, HU.out]⟩
    clear hue hu e0 e1 e2_ e3_ e4_ r1 r2 r3 r4 r5 r6 hN'
    obtain ⟨x0, x1, x2, x3, x4⟩ := cells5 HW5.out.ba
    obtain ⟨b0, b1, b2, b3, b4⟩ := cells5 HD5.out
    have f0 := blk_frozen HD5.out 0
    have f1 := blk_frozen HD5.out 1
    have f2 := blk_frozen HD5.out 2
    have f3 := blk_frozen HD5.out 3
    have f4 := blk_frozen HD5.out 4
    have HD6 := Aside0.mk (box_same HD5.out (.int .i64 u.f0) (.bool u.f1) (.slice B2 u.f2.length d2) (.slice B3 u.f3.length d3) (.slice B4 u.f4.length d4))
    have HW6 := Aside0.mk (HW5.out.setd HDN.out.1 HDN.out.2.1 HDN.out.2.2.1 HDN.out.2.2.2 (.int .i64 u.f0) (.bool u.f1) (.slice B2 u.f2.length d2) (.slice B3 u.f3.length d3) (.slice B4 u.f4.length d4))
    have hil4 : (i : Int) < (t.f4.length : Int) := by omega
    go_upto_region 9 with fail
    generalize (((((w5.setCell ⟨d, 0, none⟩ (.int .i64 u.f0)).setCell ⟨d, 1, none⟩ (.bool u.f1)).setCell ⟨d, 2, none⟩ (.slice B2 u.f2.length d2)).setCell ⟨d, 3, none⟩ (.slice B3 u.f3.length d3)).setCell ⟨d, 4, none⟩ (.slice B4 u.f4.length d4)) = w6 at *
    clear g0 g1 g2 g3 g4 x0 x1 x2 x3 x4 b0 b1 b2 b3 b4 f0 f1 f2 f3 f4
    have HWd := Aside0.mk (HW6.out.step (below_drew (Below.refl _ w6)))
    have HDd : Aside0 (w6.drew.heap[d]? = some (.cells #[(.int .i64 u.f0), (.bool u.f1), (.slice B2 u.f2.length d2), (.slice B3 u.f3.length d3), (.slice B4 u.f4.length d4)] 26 (0, 0))) := ⟨HD6.out⟩
    obtain ⟨x0, x1, x2, x3, x4⟩ := cells5 HWd.out.bb
    obtain ⟨b0, b1, b2, b3, b4⟩ := cells5 HDd.out
    refine start_ (n := 10) (S := fun w' => w'.cell? ⟨d, 0, none⟩ = some (.int .i64 u.f0) ∧ w'.cell? ⟨d, 1, none⟩ = some (.bool u.f1) ∧ w'.cell? ⟨d, 2, none⟩ = some (.slice B2 u.f2.length d2) ∧ w'.cell? ⟨d, 3, none⟩ = some (.slice B3 u.f3.length d3) ∧ w'.cell? ⟨d, 4, none⟩ = some (.slice B4 u.f4.length d4) ∧ w'.cell? ⟨b, 0, none⟩ = some (.int .i64 x.f0) ∧ w'.cell? ⟨b, 1, none⟩ = some (.bool x.f1) ∧ w'.cell? ⟨b, 2, none⟩ = some (.slice A2 x.f2.length c2) ∧ w'.cell? ⟨b, 3, none⟩ = some (.slice A3 x.f3.length c3) ∧ w'.cell? ⟨b, 4, none⟩ = some (.slice A4 x.f4.length c4)) (ds := [8]) #[false, false, false, false, false, false, false, false, false, false] (by kernel_rfl) rfl rfl ⟨b0, b1, b2, b3, b4, x0, x1, x2, x3, x4⟩ (fun hHeld => ?_)
    obtain ⟨wz, hwz⟩ : ∃ q, w6.drew = q := ⟨_, rfl⟩
    rw [hwz] at HWd HDd hHeld ⊢
    clear hwz x0 x1 x2 x3 x4 b0 b1 b2 b3 b4 HW5 HD5 HW6 HD6
    refine pure_ (i := 1) (N := some 34) (v := ?_) (a' := ?_) #[false, true, false, false, false, false, false, false, false, false] rfl rfl (by kernel_rfl) (fun _ _ _ h => h) (Or.inl ⟨by rfl, ?_⟩) ?_ ?_
    rotate_left
    · intro w'
      go_simp
      with_reducible rfl
    rotate_left
    · simp only [Act.put, List.setIfInBounds_toArray, List.set_cons_zero, List.set_cons_succ]
      rfl
    refine pure_ (i := 2) (N := some 35) (v := ?_) (a' := ?_) #[false, true, true, false, false, false, false, false, false, false] rfl rfl (by kernel_rfl) (fun _ _ _ h => h) (Or.inl ⟨by rfl, ?_⟩) ?_ ?_
    rotate_left
    · intro w'
      go_simp
      with_reducible rfl
    rotate_left
    · simp only [Act.put, List.setIfInBounds_toArray, List.set_cons_zero, List.set_cons_succ]
      rfl
    refine take_ (i := 0) (N := some 33) (v := ?_) (a' := ?_) #[true, true, true, false, false, false, false, false, false, false] rfl rfl (by kernel_rfl) (fun _ _ _ h => h) (Or.inl ⟨by rfl, ?_⟩) hHeld ?_ ?_
    rotate_left
    · rintro w' ⟨s0, s1, s2, s3, s4, s5, s6, s7, s8, s9⟩
      go_simp
      with_reducible rfl
    rotate_left
    · simp only [Act.put, List.setIfInBounds_toArray, List.set_cons_zero, List.set_cons_succ]
      rfl
    refine take_ (i := 3) (N := some 36) (v := ?_) (a' := ?_) #[true, true, true, true, false, false, false, false, false, false] rfl rfl (by kernel_rfl) (fun _ _ _ h => h) (Or.inl ⟨by rfl, ?_⟩) hHeld ?_ ?_
    rotate_left
    · rintro w' ⟨s0, s1, s2, s3, s4, s5, s6, s7, s8, s9⟩
      go_simp
      with_reducible rfl
    rotate_left
    · simp only [Act.put, List.setIfInBounds_toArray, List.set_cons_zero, List.set_cons_succ]
      rfl
    refine one_ (i := 4) (N := some 37) #[true, true, true, true, true, false, false, false, false, false] rfl rfl (by kernel_rfl) (by decide) (fun K hK => ?_)
    go_simp
    obtain ⟨⟨r, k⟩, hr⟩ : ∃ q, rputS l u x = q := ⟨_, rfl⟩
    have IHc := IH.out N' u B2 d2 B3 d3 B4 d4 x A2 c2 A3 c3 A4 c4 LB (lc - 1) wz (below_then HBW.out HBW.out.size HWd.out.bel) HTU.out HX.out.2.1 HLB.out (by omega) HOU.out
    rw [hr] at IHc HRP
    clear hr
    refine IHc.mono ?_
    clear IHc
    rintro e w7 ⟨G2, g2, G3, g3, G4, g4, rfl, hkg, hb7⟩
    simp only [TV]
    have HZ : Aside0 (a < wz.heap.size ∧ b < wz.heap.size ∧ c < wz.heap.size ∧ d < wz.heap.size ∧ w.heap.size ≤ wz.heap.size) := ⟨blk_lt HWd.out.ba, blk_lt HWd.out.bb, blk_lt HWd.out.bc, blk_lt HDd.out, HWd.out.bel.size⟩
    have HW7 := Aside0.mk (HWd.out.step hb7)
    have HD7 := Aside0.mk ((hb7.block _ (blk_lt HDd.out)).trans HDd.out)
    have HKG := Aside0.mk hkg
    have HB7 := Aside0.mk hb7.size
    clear hkg hb7 HWd HDd
    refine hK.out _ _ ⟨(blk_cell HD7.out 0).trans rfl, (blk_cell HD7.out 1).trans rfl, (blk_cell HD7.out 2).trans rfl, (blk_cell HD7.out 3).trans rfl, (blk_cell HD7.out 4).trans rfl, (blk_cell HW7.out.bb 0).trans rfl, (blk_cell HW7.out.bb 1).trans rfl, (blk_cell HW7.out.bb 2).trans rfl, (blk_cell HW7.out.bb 3).trans rfl, (blk_cell HW7.out.bb 4).trans rfl⟩ (fun hHeld => ?_)
    clear hK K
    refine pure_ (i := 5) (N := some 32) (v := ?_) (a' := ?_) #[true, true, true, true, true, true, false, false, false, false] rfl rfl (by kernel_rfl) (fun _ _ _ h => h) (Or.inl ⟨by rfl, ?_⟩) ?_ ?_
    rotate_left
    · intro w'
      go_simp
      with_reducible rfl
    rotate_left
    · simp only [Act.put, List.setIfInBounds_toArray, List.set_cons_zero, List.set_cons_succ]
      rfl
    refine pure_ (i := 6) (N := some 38) (v := ?_) (a' := ?_) #[true, true, true, true, true, true, true, false, false, false] rfl rfl (by kernel_rfl) (fun _ _ _ h => h) (Or.inl ⟨by rfl, ?_⟩) ?_ ?_
    rotate_left
    · intro w'
      go_simp
      with_reducible rfl
    rotate_left
    · simp only [Act.put, List.setIfInBounds_toArray, List.set_cons_zero, List.set_cons_succ]
      rfl
    refine pure_ (i := 7) (N := some 39) (v := ?_) (a' := ?_) #[true, true, true, true, true, true, true, true, false, false] rfl rfl (by kernel_rfl) (fun _ _ _ h => h) (Or.inl ⟨by rfl, ?_⟩) ?_ ?_
    rotate_left
    · intro w'
      go_simp
      with_reducible rfl
    rotate_left
    · simp only [Act.put, List.setIfInBounds_toArray, List.set_cons_zero, List.set_cons_succ]
      rfl
    refine last_ (i := 8) (N := none) #[true, true, true, true, true, true, true, true, true, false] rfl rfl (by kernel_rfl) (by decide) (fun K hK => ?_)
    obtain ⟨b0, b1, b2, b3, b4⟩ := cells5 HD7.out
    have f0 := blk_frozen HD7.out 0
    have f1 := blk_frozen HD7.out 1
    have f2 := blk_frozen HD7.out 2
    have f3 := blk_frozen HD7.out 3
    have f4 := blk_frozen HD7.out 4
    go_simp
    clear b0 b1 b2 b3 b4 f0 f1 f2 f3 f4
    refine hK.out _ _ ?_
    clear hK K
    have HKG8 := Aside0.mk (HKG.out.move (Fr.box w7 d (.int .i64 r.f0) (.bool r.f1) (.slice G2 r.f2.length g2) (.slice G3 r.f3.length g3) (.slice G4 r.f4.length g4) (fun k hk => by have := HZ.out; have := HDN.out; have := HBW.out.size; rcases hk with h | h; have := HDD.out k h; omega; omega)))
    have HW8 := Aside0.mk (HW7.out.setd HDN.out.1 HDN.out.2.1 HDN.out.2.2.1 HDN.out.2.2.2 (.int .i64 r.f0) (.bool r.f1) (.slice G2 r.f2.length g2) (.slice G3 r.f3.length g3) (.slice G4 r.f4.length g4))
    have HD8 := Aside0.mk (box_same HD7.out (.int .i64 r.f0) (.bool r.f1) (.slice G2 r.f2.length g2) (.slice G3 r.f3.length g3) (.slice G4 r.f4.length g4))
    have HS8 : Aside0 (w7.heap.size ≤ (((((w7.setCell ⟨d, 0, none⟩ (.int .i64 r.f0)).setCell ⟨d, 1, none⟩ (.bool r.f1)).setCell ⟨d, 2, none⟩ (.slice G2 r.f2.length g2)).setCell ⟨d, 3, none⟩ (.slice G3 r.f3.length g3)).setCell ⟨d, 4, none⟩ (.slice G4 r.f4.length g4)).heap.size) := ⟨(Fr.box (D := fun _ => False) w7 d _ _ _ _ _ (fun _ h => h.elim)).size⟩
    obtain ⟨nz, hnz⟩ : ∃ q, wz.heap.size = q := ⟨_, rfl⟩
    obtain ⟨n7, hn7⟩ : ∃ q, w7.heap.size = q := ⟨_, rfl⟩
    rw [hnz, hn7] at HKG8
    rw [hnz] at HZ
    rw [hn7] at HS8
    rw [hnz, hn7] at HB7
    clear HW7 HD7 HKG hHeld hnz hn7
    generalize (((((w7.setCell ⟨d, 0, none⟩ (.int .i64 r.f0)).setCell ⟨d, 1, none⟩ (.bool r.f1)).setCell ⟨d, 2, none⟩ (.slice G2 r.f2.length g2)).setCell ⟨d, 3, none⟩ (.slice G3 r.f3.length g3)).setCell ⟨d, 4, none⟩ (.slice G4 r.f4.length g4)) = w8 at *
    refine pure_ (i := 9) (N := some 10) (v := ?_) (a' := ?_) #[true, true, true, true, true, true, true, true, true, true] rfl rfl (by kernel_rfl) (fun _ _ _ h => h) (Or.inl ⟨by rfl, ?_⟩) ?_ ?_
    rotate_left
    · intro w'
      go_simp
      with_reducible rfl
    rotate_left
    · simp only [Act.put, List.setIfInBounds_toArray, List.set_cons_zero, List.set_cons_succ]
      rfl
    refine done_ (by kernel_rfl) ?_
    go_upto_region 10 with fail
    have hdr := below_drew (Below.refl w8.heap.size w8)
    have HW := Aside0.mk (HW8.out.step hdr)
    have HD := Aside0.mk ((hdr.block _ (blk_lt HD8.out)).trans HD8.out)
    have HKG := Aside0.mk (HKG8.out.move (Fr.below hdr (fun k hk => by have := HS8.out; have := HB7.out; have := HZ.out; have := HBW.out.size; rcases hk with h | h; have := HDD.out k h; omega; omega)))
    have HS : Aside0 (n7 ≤ w8.drew.heap.size) := HS8
    clear hdr HW8 HD8 HKG8 HS8
    refine start_ (n := 9) (S := fun w' => w'.cell? ⟨a, 0, none⟩ = some (.int .i64 t.f0) ∧ w'.cell? ⟨a, 1, none⟩ = some (.bool t.f1) ∧ w'.cell? ⟨a, 2, none⟩ = some (.slice T2 t.f2.length e2) ∧ w'.cell? ⟨a, 3, none⟩ = some (.slice T3 t.f3.length e3) ∧ w'.cell? ⟨a, 4, none⟩ = some (.slice (some ad4) t.f4.length e4) ∧ w'.cell? ad = some (.string n) ∧ w'.cell? ⟨d, 0, none⟩ = some (.int .i64 r.f0) ∧ w'.cell? ⟨d, 1, none⟩ = some (.bool r.f1) ∧ w'.cell? ⟨d, 2, none⟩ = some (.slice G2 r.f2.length g2) ∧ w'.cell? ⟨d, 3, none⟩ = some (.slice G3 r.f3.length g3) ∧ w'.cell? ⟨d, 4, none⟩ = some (.slice G4 r.f4.length g4)) (ds := [7]) #[false, false, false, false, false, false, false, false, false] (by kernel_rfl) rfl rfl ⟨(blk_cell HW.out.ba 0).trans rfl, (blk_cell HW.out.ba 1).trans rfl, (blk_cell HW.out.ba 2).trans rfl, (blk_cell HW.out.ba 3).trans rfl, (blk_cell HW.out.ba 4).trans rfl, HAT.out _ HW.out.bel, (blk_cell HD.out 0).trans rfl, (blk_cell HD.out 1).trans rfl, (blk_cell HD.out 2).trans rfl, (blk_cell HD.out 3).trans rfl, (blk_cell HD.out 4).trans rfl⟩ (fun hHeld => ?_)
    generalize w8.drew = wL at *
    refine pure_ (i := 1) (N := some 41) (v := ?_) (a' := ?_) #[false, true, false, false, false, false, false, false, false] rfl rfl (by kernel_rfl) (fun _ _ _ h => h) (Or.inl ⟨by rfl, ?_⟩) ?_ ?_
    rotate_left
    · intro w'
      go_simp
      with_reducible rfl
    rotate_left
    · simp only [Act.put, List.setIfInBounds_toArray, List.set_cons_zero, List.set_cons_succ]
      rfl
    refine pure_ (i := 2) (N := some 42) (v := ?_) (a' := ?_) #[false, true, true, false, false, false, false, false, false] rfl rfl (by kernel_rfl) (fun _ _ _ h => h) (Or.inl ⟨by rfl, ?_⟩) ?_ ?_
    rotate_left
    · intro w'
      go_simp
      with_reducible rfl
    rotate_left
    · simp only [Act.put, List.setIfInBounds_toArray, List.set_cons_zero, List.set_cons_succ]
      rfl
    refine pure_ (i := 6) (N := some 46) (v := ?_) (a' := ?_) #[false, true, true, false, false, false, true, false, false] rfl rfl (by kernel_rfl) (fun _ _ _ h => h) (Or.inl ⟨by rfl, ?_⟩) ?_ ?_
    rotate_left
    · intro w'
      go_simp
      with_reducible rfl
    rotate_left
    · simp only [Act.put, List.setIfInBounds_toArray, List.set_cons_zero, List.set_cons_succ]
      rfl
    refine take_ (i := 0) (N := some 40) (v := ?_) (a' := ?_) #[true, true, true, false, false, false, true, false, false] rfl rfl (by kernel_rfl) (fun _ _ _ h => h) (Or.inl ⟨by rfl, ?_⟩) hHeld ?_ ?_
    rotate_left
    · rintro w' ⟨s0, s1, s2, s3, s4, s5, s6, s7, s8, s9, s10⟩
      go_simp
      with_reducible rfl
    rotate_left
    · simp only [Act.put, List.setIfInBounds_toArray, List.set_cons_zero, List.set_cons_succ]
      rfl
    refine take_ (i := 3) (N := some 43) (v := ?_) (a' := ?_) #[true, true, true, true, false, false, true, false, false] rfl rfl (by kernel_rfl) (fun _ _ _ h => h) (Or.inl ⟨by rfl, ?_⟩) hHeld ?_ ?_
    rotate_left
    · rintro w' ⟨s0, s1, s2, s3, s4, s5, s6, s7, s8, s9, s10⟩
      go_simp
      with_reducible rfl
    rotate_left
    · simp only [Act.put, List.setIfInBounds_toArray, List.set_cons_zero, List.set_cons_succ]
      rfl
    refine take_ (i := 4) (N := some 44) (v := ?_) (a' := ?_) #[true, true, true, true, true, false, true, false, false] rfl rfl (by kernel_rfl) (fun _ _ _ h => h) (Or.inl ⟨by rfl, ?_⟩) hHeld ?_ ?_
    rotate_left
    · rintro w' ⟨s0, s1, s2, s3, s4, s5, s6, s7, s8, s9, s10⟩
      go_simp
      with_reducible rfl
    rotate_left
    · simp only [Act.put, List.setIfInBounds_toArray, List.set_cons_zero, List.set_cons_succ]
      rfl
    refine one_ (i := 5) (N := some 45) #[true, true, true, true, true, true, true, false, false] rfl rfl (by kernel_rfl) (by decide) (fun K hK => ?_)
    go_simp
    refine (Lay_any D0 N t T2 e2 T3 e3 (some ad4) e4 n r G2 g2 G3 g3 G4 g4 w0 wL nz n7 (below_then HBW.out HBW.out.size HW.out.bel) HDD.out HX.out.1 HO.out HKG.out HS.out).mono ?_
    obtain ⟨y, hy⟩ : ∃ q, layS t n r = q := ⟨_, rfl⟩
    have HRP2 : Aside0 (rputS (n :: l) t x = (y, k)) := ⟨by rw [HRP.out, ← hy]⟩
    rw [hy]
    clear hy
    rintro e w9 ⟨Y2, y2, Y3, y3, Y4, y4, rfl, hkg, hb⟩
    simp only [TV]
    have HLZ : Aside0 (w.heap.size ≤ wL.heap.size ∧ c < wL.heap.size) := ⟨HW.out.bel.size, blk_lt HW.out.bc⟩
    have HW := Aside0.mk (HW.out.step hb)
    have HD := Aside0.mk ((hb.block _ (blk_lt HD.out)).trans HD.out)
    have HKY := Aside0.mk hkg
    have HBS := Aside0.mk hb.size
    clear hkg hb
    refine hK.out _ _ ⟨(blk_cell HW.out.ba 0).trans rfl, (blk_cell HW.out.ba 1).trans rfl, (blk_cell HW.out.ba 2).trans rfl, (blk_cell HW.out.ba 3).trans rfl, (blk_cell HW.out.ba 4).trans rfl, HAT.out _ HW.out.bel, (blk_cell HD.out 0).trans rfl, (blk_cell HD.out 1).trans rfl, (blk_cell HD.out 2).trans rfl, (blk_cell HD.out 3).trans rfl, (blk_cell HD.out 4).trans rfl⟩ (fun hHeld => ?_)
    clear hK K
    refine last_ (i := 7) (N := none) #[true, true, true, true, true, true, true, true, false] rfl rfl (by kernel_rfl) (by decide) (fun K hK => ?_)
    obtain ⟨b0, b1, b2, b3, b4⟩ := cells5 HW.out.bc
    have f0 := blk_frozen HW.out.bc 0
    have f1 := blk_frozen HW.out.bc 1
    have f2 := blk_frozen HW.out.bc 2
    have f3 := blk_frozen HW.out.bc 3
    have f4 := blk_frozen HW.out.bc 4
    go_simp
    clear b0 b1 b2 b3 b4 f0 f1 f2 f3 f4
    refine hK.out _ _ ?_
    clear hK K
    refine pure_ (i := 8) (N := some 7) (v := ?_) (a' := ?_) #[true, true, true, true, true, true, true, true, true] rfl rfl (by kernel_rfl) (fun _ _ _ h => h) (Or.inl ⟨by rfl, ?_⟩) ?_ ?_
    rotate_left
    · intro w'
      go_simp
      with_reducible rfl
    rotate_left
    · simp only [Act.put, List.setIfInBounds_toArray, List.set_cons_zero, List.set_cons_succ]
      rfl
    refine done_ (by kernel_rfl) ?_
    clear hHeld
    have HF := Aside0.mk (HW.out.setc (.int .i64 y.f0) (.bool y.f1) (.slice Y2 y.f2.length y2) (.slice Y3 y.f3.length y3) (.slice Y4 y.f4.length y4))
    have HKF : Aside0 (KG (fun k => D0 k ∨ (w.heap.size ≤ k ∧ k < (((((w9.setCell ⟨c, 0, none⟩ (.int .i64 y.f0)).setCell ⟨c, 1, none⟩ (.bool y.f1)).setCell ⟨c, 2, none⟩ (.slice Y2 y.f2.length y2)).setCell ⟨c, 3, none⟩ (.slice Y3 y.f3.length y3)).setCell ⟨c, 4, none⟩ (.slice Y4 y.f4.length y4)).heap.size)) (((((w9.setCell ⟨c, 0, none⟩ (.int .i64 y.f0)).setCell ⟨c, 1, none⟩ (.bool y.f1)).setCell ⟨c, 2, none⟩ (.slice Y2 y.f2.length y2)).setCell ⟨c, 3, none⟩ (.slice Y3 y.f3.length y3)).setCell ⟨c, 4, none⟩ (.slice Y4 y.f4.length y4)) y (cs5 y Y2 y2 Y3 y3 Y4 y4)) := ⟨by
      have hsz := (Fr.box (D := fun _ => False) w9 c (.int .i64 y.f0) (.bool y.f1) (.slice Y2 y.f2.length y2) (.slice Y3 y.f3.length y3) (.slice Y4 y.f4.length y4) (fun _ h => h.elim)).size
      refine (HKY.out.move (Fr.box w9 c (.int .i64 y.f0) (.bool y.f1) (.slice Y2 y.f2.length y2) (.slice Y3 y.f3.length y3) (.slice Y4 y.f4.length y4) (fun k hk => ?_))).mono (fun k hk => ?_)
      · have h1 := HZ.out; have h2 := HLZ.out; have h3 := HF.out.lo; have h4 := HBW.out.size
        rcases hk with h | h | h
        · have := HDD.out k h; omega
        · omega
        · omega
      · have h1 := HZ.out; have h2 := HLZ.out; have h3 := HS.out; have h4 := HBS.out
        rcases hk with h | h | h
        · exact .inl h
        · exact .inr (by omega)
        · exact .inr (by omega)⟩
    go_wp2_with fail
    refine bodyPost_ret (results_c1 rfl _ _ c 26 _ (0, 0) _ rfl HF.out.bc Tryd.underlying26 rfl (by kernel_rfl)) rfl ?_
    exact RPutP.of HRP2.out HKF.out HF.out.bel
  | false =>
    obtain rfl : z = -1 := by rw [← HZF.out, findS, if_neg (by rw [HI.out.2]; simp)]
    have hnn : decide ((0 : Int) ≤ -1) = false := rfl
    have HRP : Aside0 (rputS (n :: l) t x = (layS t n (rputS l dir0 x).1, (rputS l dir0 x).2)) := ⟨by rw [rputS, if_neg (by simpa using H2.out), if_neg (by rw [HI.out.2]; simp)]⟩
    go_upto_region 9 with fail
    have HD6 := HD5
    have HW6 := HW5
    generalize w5 = w6 at *
    have HWd := Aside0.mk (HW6.out.step (below_drew (Below.refl _ w6)))
    have HDd : Aside0 (w6.drew.heap[d]? = some (.cells #[(.int .i64 2), (.bool false), (.slice none 0 0), (.slice none 0 0), (.slice none 0 0)] 26 (0, 0))) := ⟨HD6.out⟩
    obtain ⟨x0, x1, x2, x3, x4⟩ := cells5 HWd.out.bb
    obtain ⟨b0, b1, b2, b3, b4⟩ := cells5 HDd.out
    refine start_ (n := 10) (S := fun w' => w'.cell? ⟨d, 0, none⟩ = some (.int .i64 2) ∧ w'.cell? ⟨d, 1, none⟩ = some (.bool false) ∧ w'.cell? ⟨d, 2, none⟩ = some (.slice none 0 0) ∧ w'.cell? ⟨d, 3, none⟩ = some (.slice none 0 0) ∧ w'.cell? ⟨d, 4, none⟩ = some (.slice none 0 0) ∧ w'.cell? ⟨b, 0, none⟩ = some (.int .i64 x.f0) ∧ w'.cell? ⟨b, 1, none⟩ = some (.bool x.f1) ∧ w'.cell? ⟨b, 2, none⟩ = some (.slice A2 x.f2.length c2) ∧ w'.cell? ⟨b, 3, none⟩ = some (.slice A3 x.f3.length c3) ∧ w'.cell? ⟨b, 4, none⟩ = some (.slice A4 x.f4.length c4)) (ds := [8]) #[false, false, false, false, false, false, false, false, false, false] (by kernel_rfl) rfl rfl ⟨b0, b1, b2, b3, b4, x0, x1, x2, x3, x4⟩ (fun hHeld => ?_)
    obtain ⟨wz, hwz⟩ : ∃ q, w6.drew = q := ⟨_, rfl⟩
    rw [hwz] at HWd HDd hHeld ⊢
    clear hwz x0 x1 x2 x3 x4 b0 b1 b2 b3 b4 HW5 HD5 HW6 HD6
    refine pure_ (i := 1) (N := some 34) (v := ?_) (a' := ?_) #[false, true, false, false, false, false, false, false, false, false] rfl rfl (by kernel_rfl) (fun _ _ _ h => h) (Or.inl ⟨by rfl, ?_⟩) ?_ ?_
    rotate_left
    · intro w'
      go_simp
      with_reducible rfl
    rotate_left
    · simp only [Act.put, List.setIfInBounds_toArray, List.set_cons_zero, List.set_cons_succ]
      rfl
    refine pure_ (i := 2) (N := some 35) (v := ?_) (a' := ?_) #[false, true, true, false, false, false, false, false, false, false] rfl rfl (by kernel_rfl) (fun _ _ _ h => h) (Or.inl ⟨by rfl, ?_⟩) ?_ ?_
    rotate_left
    · intro w'
      go_simp
      with_reducible rfl
    rotate_left
    · simp only [Act.put, List.setIfInBounds_toArray, List.set_cons_zero, List.set_cons_succ]
      rfl
    refine take_ (i := 0) (N := some 33) (v := ?_) (a' := ?_) #[true, true, true, false, false, false, false, false, false, false] rfl rfl (by kernel_rfl) (fun _ _ _ h => h) (Or.inl ⟨by rfl, ?_⟩) hHeld ?_ ?_
    rotate_left
    · rintro w' ⟨s0, s1, s2, s3, s4, s5, s6, s7, s8, s9⟩
      go_simp
      with_reducible rfl
    rotate_left
    · simp only [Act.put, List.setIfInBounds_toArray, List.set_cons_zero, List.set_cons_succ]
      rfl
    refine take_ (i := 3) (N := some 36) (v := ?_) (a' := ?_) #[true, true, true, true, false, false, false, false, false, false] rfl rfl (by kernel_rfl) (fun _ _ _ h => h) (Or.inl ⟨by rfl, ?_⟩) hHeld ?_ ?_
    rotate_left
    · rintro w' ⟨s0, s1, s2, s3, s4, s5, s6, s7, s8, s9⟩
      go_simp
      with_reducible rfl
    rotate_left
    · simp only [Act.put, List.setIfInBounds_toArray, List.set_cons_zero, List.set_cons_succ]
      rfl
    refine one_ (i := 4) (N := some 37) #[true, true, true, true, true, false, false, false, false, false] rfl rfl (by kernel_rfl) (by decide) (fun K hK => ?_)
    go_simp
    obtain ⟨⟨r, k⟩, hr⟩ : ∃ q, rputS l dir0 x = q := ⟨_, rfl⟩
    have IHc := IH.out 0 dir0 none 0 none 0 none 0 x A2 c2 A3 c3 A4 c4 LB (lc - 1) wz (below_then HBW.out HBW.out.size HWd.out.bel) (KG_nil D0 w0 2) HX.out.2.1 HLB.out (by omega) Okt_dir0
    rw [hr] at IHc HRP
    clear hr
    refine IHc.mono ?_
    clear IHc
    rintro e w7 ⟨G2, g2, G3, g3, G4, g4, rfl, hkg, hb7⟩
    simp only [TV]
    have HZ : Aside0 (a < wz.heap.size ∧ b < wz.heap.size ∧ c < wz.heap.size ∧ d < wz.heap.size ∧ w.heap.size ≤ wz.heap.size) := ⟨blk_lt HWd.out.ba, blk_lt HWd.out.bb, blk_lt HWd.out.bc, blk_lt HDd.out, HWd.out.bel.size⟩
    have HW7 := Aside0.mk (HWd.out.step hb7)
    have HD7 := Aside0.mk ((hb7.block _ (blk_lt HDd.out)).trans HDd.out)
    have HKG := Aside0.mk hkg
    have HB7 := Aside0.mk hb7.size
    clear hkg hb7 HWd HDd
    refine hK.out _ _ ⟨(blk_cell HD7.out 0).trans rfl, (blk_cell HD7.out 1).trans rfl, (blk_cell HD7.out 2).trans rfl, (blk_cell HD7.out 3).trans rfl, (blk_cell HD7.out 4).trans rfl, (blk_cell HW7.out.bb 0).trans rfl, (blk_cell HW7.out.bb 1).trans rfl, (blk_cell HW7.out.bb 2).trans rfl, (blk_cell HW7.out.bb 3).trans rfl, (blk_cell HW7.out.bb 4).trans rfl⟩ (fun hHeld => ?_)
    clear hK K
    refine pure_ (i := 5) (N := some 32) (v := ?_) (a' := ?_) #[true, true, true, true, true, true, false, false, false, false] rfl rfl (by kernel_rfl) (fun _ _ _ h => h) (Or.inl ⟨by rfl, ?_⟩) ?_ ?_
    rotate_left
    · intro w'
      go_simp
      with_reducible rfl
    rotate_left
    · simp only [Act.put, List.setIfInBounds_toArray, List.set_cons_zero, List.set_cons_succ]
      rfl
    refine pure_ (i := 6) (N := some 38) (v := ?_) (a' := ?_) #[true, true, true, true, true, true, true, false, false, false] rfl rfl (by kernel_rfl) (fun _ _ _ h => h) (Or.inl ⟨by rfl, ?_⟩) ?_ ?_
    rotate_left
    · intro w'
      go_simp
      with_reducible rfl
    rotate_left
    · simp only [Act.put, List.setIfInBounds_toArray, List.set_cons_zero, List.set_cons_succ]
      rfl
    refine pure_ (i := 7) (N := some 39) (v := ?_) (a' := ?_) #[true, true, true, true, true, true, true, true, false, false] rfl rfl (by kernel_rfl) (fun _ _ _ h => h) (Or.inl ⟨by rfl, ?_⟩) ?_ ?_
    rotate_left
    · intro w'
      go_simp
      with_reducible rfl
    rotate_left
    · simp only [Act.put, List.setIfInBounds_toArray, List.set_cons_zero, List.set_cons_succ]
      rfl
    refine last_ (i := 8) (N := none) #[true, true, true, true, true, true, true, true, true, false] rfl rfl (by kernel_rfl) (by decide) (fun K hK => ?_)
    obtain ⟨b0, b1, b2, b3, b4⟩ := cells5 HD7.out
    have f0 := blk_frozen HD7.out 0
    have f1 := blk_frozen HD7.out 1
    have f2 := blk_frozen HD7.out 2
    have f3 := blk_frozen HD7.out 3
    have f4 := blk_frozen HD7.out 4
    go_simp
    clear b0 b1 b2 b3 b4 f0 f1 f2 f3 f4
    refine hK.out _ _ ?_
    clear hK K
    have HKG8 := Aside0.mk (HKG.out.move (Fr.box w7 d (.int .i64 r.f0) (.bool r.f1) (.slice G2 r.f2.length g2) (.slice G3 r.f3.length g3) (.slice G4 r.f4.length g4) (fun k hk => by have := HZ.out; have := HDN.out; have := HBW.out.size; rcases hk with h | h; have := HDD.out k h; omega; omega)))
    have HW8 := Aside0.mk (HW7.out.setd HDN.out.1 HDN.out.2.1 HDN.out.2.2.1 HDN.out.2.2.2 (.int .i64 r.f0) (.bool r.f1) (.slice G2 r.f2.length g2) (.slice G3 r.f3.length g3) (.slice G4 r.f4.length g4))
    have HD8 := Aside0.mk (box_same HD7.out (.int .i64 r.f0) (.bool r.f1) (.slice G2 r.f2.length g2) (.slice G3 r.f3.length g3) (.slice G4 r.f4.length g4))
    have HS8 : Aside0 (w7.heap.size ≤ (((((w7.setCell ⟨d, 0, none⟩ (.int .i64 r.f0)).setCell ⟨d, 1, none⟩ (.bool r.f1)).setCell ⟨d, 2, none⟩ (.slice G2 r.f2.length g2)).setCell ⟨d, 3, none⟩ (.slice G3 r.f3.length g3)).setCell ⟨d, 4, none⟩ (.slice G4 r.f4.length g4)).heap.size) := ⟨(Fr.box (D := fun _ => False) w7 d _ _ _ _ _ (fun _ h => h.elim)).size⟩
    obtain ⟨nz, hnz⟩ : ∃ q, wz.heap.size = q := ⟨_, rfl⟩
    obtain ⟨n7, hn7⟩ : ∃ q, w7.heap.size = q := ⟨_, rfl⟩
    rw [hnz, hn7] at HKG8
    rw [hnz] at HZ
    rw [hn7] at HS8
    rw [hnz, hn7] at HB7
    clear HW7 HD7 HKG hHeld hnz hn7
    generalize (((((w7.setCell ⟨d, 0, none⟩ (.int .i64 r.f0)).setCell ⟨d, 1, none⟩ (.bool r.f1)).setCell ⟨d, 2, none⟩ (.slice G2 r.f2.length g2)).setCell ⟨d, 3, none⟩ (.slice G3 r.f3.length g3)).setCell ⟨d, 4, none⟩ (.slice G4 r.f4.length g4)) = w8 at *
    refine pure_ (i := 9) (N := some 10) (v := ?_) (a' := ?_) #[true, true, true, true, true, true, true, true, true, true] rfl rfl (by kernel_rfl) (fun _ _ _ h => h) (Or.inl ⟨by rfl, ?_⟩) ?_ ?_
    rotate_left
    · intro w'
      go_simp
      with_reducible rfl
    rotate_left
    · simp only [Act.put, List.setIfInBounds_toArray, List.set_cons_zero, List.set_cons_succ]
      rfl
    refine done_ (by kernel_rfl) ?_
    go_upto_region 10 with fail
    have hdr := below_drew (Below.refl w8.heap.size w8)
    have HW := Aside0.mk (HW8.out.step hdr)
    have HD := Aside0.mk ((hdr.block _ (blk_lt HD8.out)).trans HD8.out)
    have HKG := Aside0.mk (HKG8.out.move (Fr.below hdr (fun k hk => by have := HS8.out; have := HB7.out; have := HZ.out; have := HBW.out.size; rcases hk with h | h; have := HDD.out k h; omega; omega)))
    have HS : Aside0 (n7 ≤ w8.drew.heap.size) := HS8
    clear hdr HW8 HD8 HKG8 HS8
    refine start_ (n := 9) (S := fun w' => w'.cell? ⟨a, 0, none⟩ = some (.int .i64 t.f0) ∧ w'.cell? ⟨a, 1, none⟩ = some (.bool t.f1) ∧ w'.cell? ⟨a, 2, none⟩ = some (.slice T2 t.f2.length e2) ∧ w'.cell? ⟨a, 3, none⟩ = some (.slice T3 t.f3.length e3) ∧ w'.cell? ⟨a, 4, none⟩ = some (.slice T4 t.f4.length e4) ∧ w'.cell? ad = some (.string n) ∧ w'.cell? ⟨d, 0, none⟩ = some (.int .i64 r.f0) ∧ w'.cell? ⟨d, 1, none⟩ = some (.bool r.f1) ∧ w'.cell? ⟨d, 2, none⟩ = some (.slice G2 r.f2.length g2) ∧ w'.cell? ⟨d, 3, none⟩ = some (.slice G3 r.f3.length g3) ∧ w'.cell? ⟨d, 4, none⟩ = some (.slice G4 r.f4.length g4)) (ds := [7]) #[false, false, false, false, false, false, false, false, false] (by kernel_rfl) rfl rfl ⟨(blk_cell HW.out.ba 0).trans rfl, (blk_cell HW.out.ba 1).trans rfl, (blk_cell HW.out.ba 2).trans rfl, (blk_cell HW.out.ba 3).trans rfl, (blk_cell HW.out.ba 4).trans rfl, HAT.out _ HW.out.bel, (blk_cell HD.out 0).trans rfl, (blk_cell HD.out 1).trans rfl, (blk_cell HD.out 2).trans rfl, (blk_cell HD.out 3).trans rfl, (blk_cell HD.out 4).trans rfl⟩ (fun hHeld => ?_)
    generalize w8.drew = wL at *
    refine pure_ (i := 1) (N := some 41) (v := ?_) (a' := ?_) #[false, true, false, false, false, false, false, false, false] rfl rfl (by kernel_rfl) (fun _ _ _ h => h) (Or.inl ⟨by rfl, ?_⟩) ?_ ?_
    rotate_left
    · intro w'
      go_simp
      with_reducible rfl
    rotate_left
    · simp only [Act.put, List.setIfInBounds_toArray, List.set_cons_zero, List.set_cons_succ]
      rfl
    refine pure_ (i := 2) (N := some 42) (v := ?_) (a' := ?_) #[false, true, true, false, false, false, false, false, false] rfl rfl (by kernel_rfl) (fun _ _ _ h => h) (Or.inl ⟨by rfl, ?_⟩) ?_ ?_
    rotate_left
    · intro w'
      go_simp
      with_reducible rfl
    rotate_left
    · simp only [Act.put, List.setIfInBounds_toArray, List.set_cons_zero, List.set_cons_succ]
      rfl
    refine pure_ (i := 6) (N := some 46) (v := ?_) (a' := ?_) #[false, true, true, false, false, false, true, false, false] rfl rfl (by kernel_rfl) (fun _ _ _ h => h) (Or.inl ⟨by rfl, ?_⟩) ?_ ?_
    rotate_left
    · intro w'
      go_simp
      with_reducible rfl
    rotate_left
    · simp only [Act.put, List.setIfInBounds_toArray, List.set_cons_zero, List.set_cons_succ]
      rfl
    refine take_ (i := 0) (N := some 40) (v := ?_) (a' := ?_) #[true, true, true, false, false, false, true, false, false] rfl rfl (by kernel_rfl) (fun _ _ _ h => h) (Or.inl ⟨by rfl, ?_⟩) hHeld ?_ ?_
    rotate_left
    · rintro w' ⟨s0, s1, s2, s3, s4, s5, s6, s7, s8, s9, s10⟩
      go_simp
      with_reducible rfl
    rotate_left
    · simp only [Act.put, List.setIfInBounds_toArray, List.set_cons_zero, List.set_cons_succ]
      rfl
    refine take_ (i := 3) (N := some 43) (v := ?_) (a' := ?_) #[true, true, true, true, false, false, true, false, false] rfl rfl (by kernel_rfl) (fun _ _ _ h => h) (Or.inl ⟨by rfl, ?_⟩) hHeld ?_ ?_
    rotate_left
    · rintro w' ⟨s0, s1, s2, s3, s4, s5, s6, s7, s8, s9, s10⟩
      go_simp
      with_reducible rfl
    rotate_left
    · simp only [Act.put, List.setIfInBounds_toArray, List.set_cons_zero, List.set_cons_succ]
      rfl
    refine take_ (i := 4) (N := some 44) (v := ?_) (a' := ?_) #[true, true, true, true, true, false, true, false, false] rfl rfl (by kernel_rfl) (fun _ _ _ h => h) (Or.inl ⟨by rfl, ?_⟩) hHeld ?_ ?_
    rotate_left
    · rintro w' ⟨s0, s1, s2, s3, s4, s5, s6, s7, s8, s9, s10⟩
      go_simp
      with_reducible rfl
    rotate_left
    · simp only [Act.put, List.setIfInBounds_toArray, List.set_cons_zero, List.set_cons_succ]
      rfl
    refine one_ (i := 5) (N := some 45) #[true, true, true, true, true, true, true, false, false] rfl rfl (by kernel_rfl) (by decide) (fun K hK => ?_)
    go_simp
    refine (Lay_any D0 N t T2 e2 T3 e3 T4 e4 n r G2 g2 G3 g3 G4 g4 w0 wL nz n7 (below_then HBW.out HBW.out.size HW.out.bel) HDD.out HX.out.1 HO.out HKG.out HS.out).mono ?_
    obtain ⟨y, hy⟩ : ∃ q, layS t n r = q := ⟨_, rfl⟩
    have HRP2 : Aside0 (rputS (n :: l) t x = (y, k)) := ⟨by rw [HRP.out, ← hy]⟩
    rw [hy]
    clear hy
    rintro e w9 ⟨Y2, y2, Y3, y3, Y4, y4, rfl, hkg, hb⟩
    simp only [TV]
    have HLZ : Aside0 (w.heap.size ≤ wL.heap.size ∧ c < wL.heap.size) := ⟨HW.out.bel.size, blk_lt HW.out.bc⟩
    have HW := Aside0.mk (HW.out.step hb)
    have HD := Aside0.mk ((hb.block _ (blk_lt HD.out)).trans HD.out)
    have HKY := Aside0.mk hkg
    have HBS := Aside0.mk hb.size
    clear hkg hb
    refine hK.out _ _ ⟨(blk_cell HW.out.ba 0).trans rfl, (blk_cell HW.out.ba 1).trans rfl, (blk_cell HW.out.ba 2).trans rfl, (blk_cell HW.out.ba 3).trans rfl, (blk_cell HW.out.ba 4).trans rfl, HAT.out _ HW.out.bel, (blk_cell HD.out 0).trans rfl, (blk_cell HD.out 1).trans rfl, (blk_cell HD.out 2).trans rfl, (blk_cell HD.out 3).trans rfl, (blk_cell HD.out 4).trans rfl⟩ (fun hHeld => ?_)
    clear hK K
    refine last_ (i := 7) (N := none) #[true, true, true, true, true, true, true, true, false] rfl rfl (by kernel_rfl) (by decide) (fun K hK => ?_)
    obtain ⟨b0, b1, b2, b3, b4⟩ := cells5 HW.out.bc
    have f0 := blk_frozen HW.out.bc 0
    have f1 := blk_frozen HW.out.bc 1
    have f2 := blk_frozen HW.out.bc 2
    have f3 := blk_frozen HW.out.bc 3
    have f4 := blk_frozen HW.out.bc 4
    go_simp
    clear b0 b1 b2 b3 b4 f0 f1 f2 f3 f4
    refine hK.out _ _ ?_
    clear hK K
    refine pure_ (i := 8) (N := some 7) (v := ?_) (a' := ?_) #[true, true, true, true, true, true, true, true, true] rfl rfl (by kernel_rfl) (fun _ _ _ h => h) (Or.inl ⟨by rfl, ?_⟩) ?_ ?_
    rotate_left
    · intro w'
      go_simp
      with_reducible rfl
    rotate_left
    · simp only [Act.put, List.setIfInBounds_toArray, List.set_cons_zero, List.set_cons_succ]
      rfl
    refine done_ (by kernel_rfl) ?_
    clear hHeld
    have HF := Aside0.mk (HW.out.setc (.int .i64 y.f0) (.bool y.f1) (.slice Y2 y.f2.length y2) (.slice Y3 y.f3.length y3) (.slice Y4 y.f4.length y4))
    have HKF : Aside0 (KG (fun k => D0 k ∨ (w.heap.size ≤ k ∧ k < (((((w9.setCell ⟨c, 0, none⟩ (.int .i64 y.f0)).setCell ⟨c, 1, none⟩ (.bool y.f1)).setCell ⟨c, 2, none⟩ (.slice Y2 y.f2.length y2)).setCell ⟨c, 3, none⟩ (.slice Y3 y.f3.length y3)).setCell ⟨c, 4, none⟩ (.slice Y4 y.f4.length y4)).heap.size)) (((((w9.setCell ⟨c, 0, none⟩ (.int .i64 y.f0)).setCell ⟨c, 1, none⟩ (.bool y.f1)).setCell ⟨c, 2, none⟩ (.slice Y2 y.f2.length y2)).setCell ⟨c, 3, none⟩ (.slice Y3 y.f3.length y3)).setCell ⟨c, 4, none⟩ (.slice Y4 y.f4.length y4)) y (cs5 y Y2 y2 Y3 y3 Y4 y4)) := ⟨by
      have hsz := (Fr.box (D := fun _ => False) w9 c (.int .i64 y.f0) (.bool y.f1) (.slice Y2 y.f2.length y2) (.slice Y3 y.f3.length y3) (.slice Y4 y.f4.length y4) (fun _ h => h.elim)).size
      refine (HKY.out.move (Fr.box w9 c (.int .i64 y.f0) (.bool y.f1) (.slice Y2 y.f2.length y2) (.slice Y3 y.f3.length y3) (.slice Y4 y.f4.length y4) (fun k hk => ?_))).mono (fun k hk => ?_)
      · have h1 := HZ.out; have h2 := HLZ.out; have h3 := HF.out.lo; have h4 := HBW.out.size
        rcases hk with h | h | h
        · have := HDD.out k h; omega
        · omega
        · omega
      · have h1 := HZ.out; have h2 := HLZ.out; have h3 := HS.out; have h4 := HBS.out
        rcases hk with h | h | h
        · exact .inl h
        · exact .inr (by omega)
        · exact .inr (by omega)⟩
    go_wp2_with fail
    refine bodyPost_ret (results_c1 rfl _ _ c 26 _ (0, 0) _ rfl HF.out.bc Tryd.underlying26 rfl (by kernel_rfl)) rfl ?_
    exact RPutP.of HRP2.out HKF.out HF.out.bel
theorem rput_any (D0 : Nat → Prop) (w0 : World) (hD : ∀ k, D0 k → k < w0.heap.size) : ∀ (l : List ByteArray), l.length ≤ 1000000 → ∀ (N : Nat) (t : S26) (T2 : Option Addr) (e2 : Nat) (T3 : Option Addr) (e3 : Nat) (T4 : Option Addr) (e4 : Nat) (x : S26) (A2 : Option Addr) (c2 : Nat) (A3 : Option Addr) (c3 : Nat) (A4 : Option Addr) (c4 : Nat) (LA : Option Addr) (lc : Nat) (w : World), Below w0.heap.size w0 w → KG D0 w0 t (cs5 t T2 e2 T3 e3 T4 e4) → KG D0 w0 x (cs5 x A2 c2 A3 c3 A4 c4) → Kd.string.C w0 LA l.length l → l.length ≤ lc → Okt (N + 1) t →
      Calls Tryd.prog 40 #[TV t T2 e2 T3 e3 T4 e4, .slice LA l.length lc, TV x A2 c2 A3 c3 A4 c4] w (RPutP D0 w (rputS l t x)) := by
  intro l
  induction l with
  | nil => intro _ N t T2 e2 T3 e3 T4 e4 x A2 c2 A3 c3 A4 c4 LA lc w hB ht hx _ _ _; exact rput_nil t T2 e2 T3 e3 T4 e4 x A2 c2 A3 c3 A4 c4 LA lc D0 w0 w hB hD ht hx
  | cons n l ih =>
    intro hl N t T2 e2 T3 e3 T4 e4 x A2 c2 A3 c3 A4 c4 LA lc w hB ht hx hL hlc ho
    have hl' : l.length ≤ 1000000 := by rw [List.length_cons] at hl; omega
    by_cases h2 : t.f0 = 2
    · exact rput_dir n l N t T2 e2 T3 e3 T4 e4 x A2 c2 A3 c3 A4 c4 LA lc D0 w0 w hB hD ht hx h2 hl' hL hlc ho (ih hl')
    · rw [rputS, if_pos h2]
      exact rput_file n l t T2 e2 T3 e3 T4 e4 x A2 c2 A3 c3 A4 c4 LA lc D0 w0 w hB hD ht hx h2 hl'
end Go.Proofs.YtfnofjcdaghniaaDoor.Tree
/- the reference's Put, walked. Own work; printed by gen_rq.py. -/
namespace Go.Proofs.YtfnofjcdaghniaaDoor.Tree
set_option linter.unusedVariables false
set_option linter.unusedSimpArgs false
open Go.RowKit Go.Proofs.YtfnofjcdaghniaaDoor.PL Go.Proofs.YtfnofjcdaghniaaDoor.Mt Go.Proofs.YtfnofjcdaghniaaDoorW.PrintWords Go.Proofs.YtfnofjcdaghniaaDoorW.PrintLast Go.Proofs.YtfnofjcdaghniaaDoorW.PrintMore
theorem partsS_le (s : ByteArray) : (partsS s).length ≤ s.size + 1 := by
  unfold partsS
  split
  · simp
  · have hle := Lib.countB_le slash (by decide) s.size s (Nat.le_refl _)
    rw [Lib.splitB_all slash (by decide) 0 _ s rfl]
    omega
theorem KG_setc {lo eb : Nat} {we wf : World} {y : S26} {Y2 : Option Addr} {y2 : Nat} {Y3 : Option Addr} {y3 : Nat} {Y4 : Option Addr} {y4 : Nat} (h : KG (fun k => lo ≤ k ∧ k ≠ eb) we y (cs5 y Y2 y2 Y3 y3 Y4 y4)) (hb : Below we.heap.size we wf) (c : Nat) (hc : c < lo) (v0 v1 v2 v3 v4 : Value) :
    TR (((((wf.setCell ⟨c, 0, none⟩ v0).setCell ⟨c, 1, none⟩ v1).setCell ⟨c, 2, none⟩ v2).setCell ⟨c, 3, none⟩ v3).setCell ⟨c, 4, none⟩ v4) y Y2 y2 Y3 y3 Y4 y4 := by
  obtain ⟨wg, hwg⟩ : ∃ q, (((((wf.setCell ⟨c, 0, none⟩ v0).setCell ⟨c, 1, none⟩ v1).setCell ⟨c, 2, none⟩ v2).setCell ⟨c, 3, none⟩ v3).setCell ⟨c, 4, none⟩ v4) = q := ⟨_, rfl⟩
  have hf : Fr (fun k => k ≠ c) wf wg := hwg ▸ Fr.box wf c v0 v1 v2 v3 v4 (fun k hk => hk)
  rw [hwg]
  -- the tree is read in we with block c as it is in wg
  obtain ⟨wx, hwx⟩ : ∃ q : World, q = { we with heap := we.heap.mapIdx (fun k o => if k = c then (wg.heap[k]?.getD o) else o) } := ⟨_, rfl⟩
  have f1 : Fr (fun k => lo ≤ k ∧ k ≠ eb) we wx := by
    subst hwx
    refine ⟨rfl, rfl, rfl, by simp, fun k hk => ?_⟩
    show (we.heap.mapIdx _)[k]? = _
    rw [Array.getElem?_mapIdx]
    cases we.heap[k]? with
    | none => rfl
    | some o => simp [show k ≠ c by omega]
  have hsz : wx.heap.size = we.heap.size := by subst hwx; simp
  refine TR.below (h.TR f1) ⟨?_, ?_, ?_, ?_, fun k hk => ?_⟩
  · subst hwx; exact hf.os.trans hb.os
  · subst hwx; exact hf.tape.trans hb.tape
  · subst hwx; exact hf.output.trans hb.output
  · rw [hsz]; exact Nat.le_trans hb.size hf.size
  · rw [hsz] at hk
    by_cases hkc : k = c
    · subst hkc
      subst hwx
      show wg.heap[k]? = (we.heap.mapIdx _)[k]?
      rw [Array.getElem?_mapIdx, Array.getElem?_eq_getElem hk]
      have h9 : k < wg.heap.size := Nat.lt_of_lt_of_le hk (Nat.le_trans hb.size hf.size)
      simp [Array.getElem?_eq_getElem h9]
    · rw [hf.block k hkc, hb.block k hk]
      subst hwx
      show _ = (we.heap.mapIdx _)[k]?
      rw [Array.getElem?_mapIdx, Array.getElem?_eq_getElem hk]
      simp [hkc]
def RQ (w : World) (T : S26 × Int) (e : Ending) (w' : World) : Prop := ∃ A2 c2 A3 c3 A4 c4, e = .returned (.tuple #[TV T.1 A2 c2 A3 c3 A4 c4, .int .i64 T.2]) ∧ TR w' T.1 A2 c2 A3 c3 A4 c4 ∧ Below w.heap.size w w'
theorem RQ.zero {w w' : World} {R : S26 × Int} {k : Int} (hR : R = (z0, k)) (hB : Below w.heap.size w w') :
    RQ w R (.returned (.tuple #[.agg #[.int .i64 0, .bool false, .slice none 0 0, .slice none 0 0, .slice none 0 0], .int .i64 k])) w' := by
  subst hR
  exact ⟨none, 0, none, 0, none, 0, rfl, TR_nil w' 0, hB⟩
theorem RQ.of {w w' : World} {R : S26 × Int} {r : S26} {k : Int} (hR : R = (r, k)) {A2 : Option Addr} {c2 : Nat} {A3 : Option Addr} {c3 : Nat} {A4 : Option Addr} {c4 : Nat} (ho : TR w' r A2 c2 A3 c3 A4 c4) (hB : Below w.heap.size w w') :
    RQ w R (.returned (.tuple #[.agg #[.int .i64 r.f0, .bool r.f1, .slice A2 r.f2.length c2, .slice A3 r.f3.length c3, .slice A4 r.f4.length c4], .int .i64 k])) w' := by
  subst hR
  exact ⟨A2, c2, A3, c3, A4, c4, rfl, ho, hB⟩
set_option maxRecDepth 20000 in
set_option maxHeartbeats 8000000 in
theorem RPut_any (N M : Nat) (t : S26) (T2 : Option Addr) (e2 : Nat) (T3 : Option Addr) (e3 : Nat) (T4 : Option Addr) (e4 : Nat) (x : S26) (A2 : Option Addr) (c2 : Nat) (A3 : Option Addr) (c3 : Nat) (A4 : Option Addr) (c4 : Nat) (place : ByteArray) (w : World)
    (ht : TR w t T2 e2 T3 e3 T4 e4) (hx : TR w x A2 c2 A3 c3 A4 c4) (hGt : GT N t) (hGx : GT M x) (hp : place.size < 1000000) :
    Calls Tryd.prog 22 #[TV t T2 e2 T3 e3 T4 e4, .string place, TV x A2 c2 A3 c3 A4 c4] w (RQ w (PutS N M t place x)) := by
  have HT := Aside0.mk (And.intro ht (And.intro hx (Nat.le_of_lt hp)))
  have HG := Aside0.mk (And.intro hGt hGx)
  have HLP : Aside0 (place.size < 1000000) := ⟨hp⟩
  clear ht hx hGt hGx hp
  have HW := Aside0.mk (PW.enter w t x T2 e2 T3 e3 T4 e4 A2 c2 A3 c3 A4 c4)
  go_enter Tryd.func22, Tryd.ntmps22
  go_upto_region 1 with fail
  generalize (((w.alloc (bx t T2 e2 T3 e3 T4 e4)).alloc (bx x A2 c2 A3 c3 A4 c4)).alloc (.cells #[.int .i64 0, .bool false, .slice none 0 0, .slice none 0 0, .slice none 0 0] 26)) = w3 at *
  obtain ⟨a, ha⟩ : ∃ q, w.heap.size = q := ⟨_, rfl⟩
  rw [ha] at HW ⊢
  clear ha
  obtain ⟨b, hb⟩ : ∃ q, a + 1 = q := ⟨_, rfl⟩
  rw [hb] at HW ⊢
  clear hb
  obtain ⟨c, hc⟩ : ∃ q, b + 1 = q := ⟨_, rfl⟩
  rw [hc] at HW ⊢
  clear hc
  obtain ⟨x0, x1, x2, x3, x4⟩ := cells5 HW.out.ba
  go_wp2_with fail
  clear x0 x1 x2 x3 x4
  refine (RCheck_any N t T2 e2 T3 e3 T4 e4 w3 (HT.out.1.below HW.out.bel) HG.out.1).mono ?_
  rintro e w4 ⟨rfl, hb⟩
  have HW := Aside0.mk (HW.out.step hb)
  clear hb
  obtain ⟨k1, hk1⟩ : ∃ q, (chk N t 1 0).1 = q := ⟨_, rfl⟩
  rw [hk1]
  have HK1 := Aside0.mk hk1
  clear hk1
  by_cases hz : k1 = 0
  rotate_left
  · skip
    have hkb : (k1 != 0) = true := by simpa using hz
    have hkc : (k1 == 0) = false := by simpa using hz
    have HP : Aside0 (PutS N M t place x = (z0, k1)) := ⟨PutS_e1 HK1.out hz⟩
    clear hz
    obtain ⟨b0, b1, b2, b3, b4⟩ := cells5 HW.out.bc
    have f0 := blk_frozen HW.out.bc 0
    have f1 := blk_frozen HW.out.bc 1
    have f2 := blk_frozen HW.out.bc 2
    have f3 := blk_frozen HW.out.bc 3
    have f4 := blk_frozen HW.out.bc 4
    have HF := Aside0.mk (HW.out.setc (.int .i64 0) (.bool false) (.slice none 0 0) (.slice none 0 0) (.slice none 0 0))
    go_wp2_with fail
    refine bodyPost_ret (results_c1 rfl _ _ c 26 _ (0, 0) _ rfl HF.out.bc Tryd.underlying26 rfl (by kernel_rfl)) rfl ?_
    exact RQ.zero HP.out HF.out.bel
  subst hz
  obtain ⟨x0, x1, x2, x3, x4⟩ := cells5 HW.out.bb
  go_wp2_with fail
  clear x0 x1 x2 x3 x4
  refine (RCheck_any M x A2 c2 A3 c3 A4 c4 w4 (HT.out.2.1.below HW.out.bel) HG.out.2).mono ?_
  rintro e w5 ⟨rfl, hb⟩
  have HW := Aside0.mk (HW.out.step hb)
  clear hb
  obtain ⟨k2, hk2⟩ : ∃ q, (chk M x 1 0).1 = q := ⟨_, rfl⟩
  rw [hk2]
  have HK2 := Aside0.mk hk2
  clear hk2
  by_cases hz : k2 = 0
  rotate_left
  · skip
    have hkb : (k2 != 0) = true := by simpa using hz
    have hkc : (k2 == 0) = false := by simpa using hz
    have HP : Aside0 (PutS N M t place x = (z0, k2)) := ⟨PutS_e2 HK1.out HK2.out hz⟩
    clear hz
    obtain ⟨b0, b1, b2, b3, b4⟩ := cells5 HW.out.bc
    have f0 := blk_frozen HW.out.bc 0
    have f1 := blk_frozen HW.out.bc 1
    have f2 := blk_frozen HW.out.bc 2
    have f3 := blk_frozen HW.out.bc 3
    have f4 := blk_frozen HW.out.bc 4
    have HF := Aside0.mk (HW.out.setc (.int .i64 0) (.bool false) (.slice none 0 0) (.slice none 0 0) (.slice none 0 0))
    go_wp2_with fail
    refine bodyPost_ret (results_c1 rfl _ _ c 26 _ (0, 0) _ rfl HF.out.bc Tryd.underlying26 rfl (by kernel_rfl)) rfl ?_
    exact RQ.zero HP.out HF.out.bel
  subst hz
  go_wp2_with fail
  refine (RParts_any place w5 HT.out.2.2).mono ?_
  rintro e w6 ⟨v0_, rfl, hR, hb⟩
  have HW := Aside0.mk (HW.out.step hb)
  clear hb
  obtain ⟨l, hl⟩ : ∃ q, partsS place = q := ⟨_, rfl⟩
  obtain ⟨ok, hok⟩ : ∃ q, l.all isE = q := ⟨_, rfl⟩
  have HLL : Aside0 (l.length ≤ 1000000) := ⟨by
    have h1 := partsS_le place
    have h2 := HLP.out
    rw [hl] at h1
    omega⟩
  rw [hl] at hR ⊢
  have hr2 : (resP [] l).2 = ok := by unfold resP; rw [hok]; cases ok <;> rfl
  rw [hr2]
  have HL := Aside0.mk (And.intro hl hok)
  obtain ⟨ll, hl1⟩ : ∃ q, (resP [] l).1 = q := ⟨_, rfl⟩
  rw [hl1] at hR
  have HRL := Aside0.mk hl1
  obtain ⟨LA, lc, rfl⟩ := Kd.R_slice hR
  have HC := Aside0.mk (Kd.R_reads' hR)
  clear hl hok hR hr2 hl1
  cases ok with
  | false =>
    have HP : Aside0 (PutS N M t place x = (z0, 9)) := ⟨PutS_e3 HK1.out HK2.out (by rw [HL.out.1]; exact HL.out.2)⟩
    obtain ⟨b0, b1, b2, b3, b4⟩ := cells5 HW.out.bc
    have f0 := blk_frozen HW.out.bc 0
    have f1 := blk_frozen HW.out.bc 1
    have f2 := blk_frozen HW.out.bc 2
    have f3 := blk_frozen HW.out.bc 3
    have f4 := blk_frozen HW.out.bc 4
    have HF := Aside0.mk (HW.out.setc (.int .i64 0) (.bool false) (.slice none 0 0) (.slice none 0 0) (.slice none 0 0))
    go_wp2_with fail
    refine bodyPost_ret (results_c1 rfl _ _ c 26 _ (0, 0) _ rfl HF.out.bc Tryd.underlying26 rfl (by kernel_rfl)) rfl ?_
    exact RQ.zero HP.out HF.out.bel
  | true =>
    obtain rfl : l = ll := by have := HRL.out; unfold resP at this; rw [HL.out.2, if_pos rfl] at this; exact this
    clear HRL
    obtain ⟨N', hN'⟩ := GT_pos HG.out.1
    have HO : Aside0 (Okt (N' + 1) t) := ⟨hN' ▸ chk_okt N t 1 0 HG.out.1 (by omega) HK1.out⟩
    obtain ⟨⟨y, ok⟩, hy⟩ : ∃ q, rputS l t x = q := ⟨_, rfl⟩
    have HY := Aside0.mk hy
    clear hy hN'
    go_upto_region 9 with fail
    have HW := Aside0.mk (HW.out.step (below_drew (Below.refl _ w6)))
    have HCL : Aside0 (Kd.string.C w6.drew LA l.length l) := ⟨Kd.C_drew HC.out.2.2⟩
    obtain ⟨x0, x1, x2, x3, x4⟩ := cells5 HW.out.ba
    obtain ⟨b0, b1, b2, b3, b4⟩ := cells5 HW.out.bb
    refine start_ (n := 12) (S := fun w' => w'.cell? ⟨a, 0, none⟩ = some (.int .i64 t.f0) ∧ w'.cell? ⟨a, 1, none⟩ = some (.bool t.f1) ∧ w'.cell? ⟨a, 2, none⟩ = some (.slice T2 t.f2.length e2) ∧ w'.cell? ⟨a, 3, none⟩ = some (.slice T3 t.f3.length e3) ∧ w'.cell? ⟨a, 4, none⟩ = some (.slice T4 t.f4.length e4) ∧ w'.cell? ⟨b, 0, none⟩ = some (.int .i64 x.f0) ∧ w'.cell? ⟨b, 1, none⟩ = some (.bool x.f1) ∧ w'.cell? ⟨b, 2, none⟩ = some (.slice A2 x.f2.length c2) ∧ w'.cell? ⟨b, 3, none⟩ = some (.slice A3 x.f3.length c3) ∧ w'.cell? ⟨b, 4, none⟩ = some (.slice A4 x.f4.length c4)) (ds := [10]) #[false, false, false, false, false, false, false, false, false, false, false, false] (by kernel_rfl) rfl rfl ⟨x0, x1, x2, x3, x4, b0, b1, b2, b3, b4⟩ (fun hHeld => ?_)
    clear x0 x1 x2 x3 x4
    clear b0 b1 b2 b3 b4
    have hlcl := HC.out.2.1
    obtain ⟨wr, hwr⟩ : ∃ q, w6.drew = q := ⟨_, rfl⟩
    rw [hwr] at HW HCL hHeld ⊢
    clear hwr HC
    obtain ⟨lo, hlo⟩ : ∃ q, wr.heap.size = q := ⟨_, rfl⟩
    have HLO : Aside0 (lo ≤ wr.heap.size ∧ a < lo ∧ b < lo ∧ c < lo ∧ w.heap.size ≤ lo) := ⟨by subst hlo; exact ⟨Nat.le_refl _, blk_lt HW.out.ba, blk_lt HW.out.bb, blk_lt HW.out.bc, HW.out.bel.size⟩⟩
    clear hlo
    have HLOK : Aside0 (a < lo ∧ b < lo ∧ c < lo ∧ w.heap.size ≤ lo) := ⟨HLO.out.2⟩
    refine pure_ (i := 2) (N := some 33) (v := ?_) (a' := ?_) #[false, false, true, false, false, false, false, false, false, false, false, false] rfl rfl (by kernel_rfl) (fun _ _ _ h => h) (Or.inl ⟨by rfl, ?_⟩) ?_ ?_
    rotate_left
    · intro w'
      go_simp
      with_reducible rfl
    rotate_left
    · simp only [Act.put, List.setIfInBounds_toArray, List.set_cons_zero, List.set_cons_succ]
      rfl
    refine take_ (i := 0) (N := some 31) (v := ?_) (a' := ?_) #[true, false, true, false, false, false, false, false, false, false, false, false] rfl rfl (by kernel_rfl) (fun _ _ _ h => h) (Or.inl ⟨by rfl, ?_⟩) hHeld ?_ ?_
    rotate_left
    · rintro w' ⟨s0, s1, s2, s3, s4, s5, s6, s7, s8, s9⟩
      go_simp
      with_reducible rfl
    rotate_left
    · simp only [Act.put, List.setIfInBounds_toArray, List.set_cons_zero, List.set_cons_succ]
      rfl
    refine take_ (i := 3) (N := some 34) (v := ?_) (a' := ?_) #[true, false, true, true, false, false, false, false, false, false, false, false] rfl rfl (by kernel_rfl) (fun _ _ _ h => h) (Or.inl ⟨by rfl, ?_⟩) hHeld ?_ ?_
    rotate_left
    · rintro w' ⟨s0, s1, s2, s3, s4, s5, s6, s7, s8, s9⟩
      go_simp
      with_reducible rfl
    rotate_left
    · simp only [Act.put, List.setIfInBounds_toArray, List.set_cons_zero, List.set_cons_succ]
      rfl
    refine join_ (σ := ((Value × Value) × Nat) × (Value × Value)) 2 #[true, true, true, true, true, true, true, true, true, true, false, false] (fun s_ => [(32, s_.2.1), (35, s_.2.2), (36, s_.1.1.1), (30, s_.1.1.1), (37, s_.1.1.2), (38, .bool ok), (11, .pointer (some ⟨s_.1.2, 0, none⟩))]) (fun s_ w' => ∃ Y2 y2 Y3 y3 Y4 y4, s_.1.1 = (.tuple #[.agg #[.int .i64 y.f0, .bool y.f1, .slice Y2 y.f2.length y2, .slice Y3 y.f3.length y3, .slice Y4 y.f4.length y4], .bool ok], .agg #[.int .i64 y.f0, .bool y.f1, .slice Y2 y.f2.length y2, .slice Y3 y.f3.length y3, .slice Y4 y.f4.length y4]) ∧ PW w w' a b c #[.int .i64 t.f0, .bool t.f1, .slice T2 t.f2.length e2, .slice T3 t.f3.length e3, .slice T4 t.f4.length e4] #[.int .i64 x.f0, .bool x.f1, .slice A2 x.f2.length c2, .slice A3 x.f3.length c3, .slice A4 x.f4.length c4] #[.int .i64 0, .bool false, .slice none 0 0, .slice none 0 0, .slice none 0 0] ∧ w'.heap[s_.1.2]? = some (.cells #[.int .i64 0, .bool false, .slice none 0 0, .slice none 0 0, .slice none 0 0] 26 (0, 0)) ∧ lo ≤ s_.1.2 ∧ KG (fun k => lo ≤ k ∧ k ≠ s_.1.2) w' y (cs5 y Y2 y2 Y3 y3 Y4 y4)) ?_ ?_
    rotate_left
    · intro hCont
      refine two_ (i := 1) (j := 9) (Ni := some 32) (Nj := some 11) #[true, true, true, true, false, false, false, false, false, false, false, false] #[true, false, true, true, false, false, false, false, false, true, false, false] rfl rfl rfl rfl (by kernel_rfl) (by decide) (by decide) (fun K hK => ?_) (fun K hK => ?_)
      · skip
        go_simp
        refine (Clone_any N t T2 e2 T3 e3 T4 e4 wr (HT.out.1.below HW.out.bel) HG.out.1).mono ?_
        rintro e_ w9 ⟨P2, p2, P3, p3, P4, p4, rfl, ho, -, hb⟩
        simp only [TV]
        obtain ⟨u1, hu1⟩ : ∃ q, wr.heap.size = q := ⟨_, rfl⟩
        obtain ⟨u2, hu2⟩ : ∃ q, w9.heap.size = q := ⟨_, rfl⟩
        have hkg := OT.KG ho
        rw [hu1, hu2] at hkg
        have HKT := Aside0.mk hkg
        have HU0 : Aside0 (lo ≤ u1 ∧ u1 ≤ u2 ∧ u2 ≤ w9.heap.size) := ⟨by have h1 := HLO.out; have h2 := hb.size; omega⟩
        have HW := Aside0.mk (HW.out.step hb)
        have HCL := Aside0.mk (Kd.C_below HCL.out hb)
        have HLO : Aside0 (lo ≤ w9.heap.size ∧ a < lo ∧ b < lo ∧ c < lo ∧ w.heap.size ≤ lo) := ⟨by have h1 := HLO.out; have h2 := (hb).size; omega⟩
        have HU := HU0
        clear hb ho hkg HU0 hu1 hu2
        generalize w9 = wr at *
        refine hK.out _ _ ⟨(blk_cell HW.out.ba 0).trans rfl, (blk_cell HW.out.ba 1).trans rfl, (blk_cell HW.out.ba 2).trans rfl, (blk_cell HW.out.ba 3).trans rfl, (blk_cell HW.out.ba 4).trans rfl, (blk_cell HW.out.bb 0).trans rfl, (blk_cell HW.out.bb 1).trans rfl, (blk_cell HW.out.bb 2).trans rfl, (blk_cell HW.out.bb 3).trans rfl, (blk_cell HW.out.bb 4).trans rfl⟩ (fun hHeld => ?_)
        clear hK K
        refine two_ (i := 4) (j := 9) (Ni := some 35) (Nj := some 11) #[true, true, true, true, true, false, false, false, false, false, false, false] #[true, true, true, true, false, false, false, false, false, true, false, false] rfl rfl rfl rfl (by kernel_rfl) (by decide) (by decide) (fun K hK => ?_) (fun K hK => ?_)
        · skip
          go_simp
          refine (Clone_any M x A2 c2 A3 c3 A4 c4 wr (HT.out.2.1.below HW.out.bel) HG.out.2).mono ?_
          rintro e_ w9 ⟨Q2, q2, Q3, q3, Q4, q4, rfl, ho, -, hb⟩
          simp only [TV]
          obtain ⟨v1, hv1⟩ : ∃ q, wr.heap.size = q := ⟨_, rfl⟩
          obtain ⟨v2, hv2⟩ : ∃ q, w9.heap.size = q := ⟨_, rfl⟩
          have hkg := OT.KG ho
          rw [hv1, hv2] at hkg
          have HKX := Aside0.mk hkg
          have HV0 : Aside0 (lo ≤ v1 ∧ v1 ≤ v2 ∧ v2 ≤ w9.heap.size) := ⟨by have h1 := HLO.out; have h2 := hb.size; omega⟩
          have HW := Aside0.mk (HW.out.step hb)
          have HCL := Aside0.mk (Kd.C_below HCL.out hb)
          have HKT := Aside0.mk (HKT.out.move (Fr.below hb (fun k hk => by have := HU.out; omega)))
          have HU : Aside0 (lo ≤ u1 ∧ u1 ≤ u2 ∧ u2 ≤ w9.heap.size) := ⟨by have h1 := HU.out; have h2 := (hb).size; omega⟩
          have HLO : Aside0 (lo ≤ w9.heap.size ∧ a < lo ∧ b < lo ∧ c < lo ∧ w.heap.size ≤ lo) := ⟨by have h1 := HLO.out; have h2 := (hb).size; omega⟩
          have HV := HV0
          clear hb ho hkg HV0 hv1 hv2
          generalize w9 = wr at *
          refine hK.out _ _ ⟨(blk_cell HW.out.ba 0).trans rfl, (blk_cell HW.out.ba 1).trans rfl, (blk_cell HW.out.ba 2).trans rfl, (blk_cell HW.out.ba 3).trans rfl, (blk_cell HW.out.ba 4).trans rfl, (blk_cell HW.out.bb 0).trans rfl, (blk_cell HW.out.bb 1).trans rfl, (blk_cell HW.out.bb 2).trans rfl, (blk_cell HW.out.bb 3).trans rfl, (blk_cell HW.out.bb 4).trans rfl⟩ (fun hHeld => ?_)
          clear hK K
          refine two_ (i := 5) (j := 9) (Ni := some 36) (Nj := some 11) #[true, true, true, true, true, true, false, false, false, false, false, false] #[true, true, true, true, true, false, false, false, false, true, false, false] rfl rfl rfl rfl (by kernel_rfl) (by decide) (by decide) (fun K hK => ?_) (fun K hK => ?_)
          · skip
            go_simp
            have hDD : ∀ k, ((u1 ≤ k ∧ k < u2) ∨ (v1 ≤ k ∧ k < v2)) → k < wr.heap.size := fun k hk => by have h1 := HU.out; have h2 := HV.out; omega
            refine (rput_any (fun k => (u1 ≤ k ∧ k < u2) ∨ (v1 ≤ k ∧ k < v2)) wr hDD l HLL.out N' t P2 p2 P3 p3 P4 p4 x Q2 q2 Q3 q3 Q4 q4 LA lc wr (Below.refl _ _) (HKT.out.mono (fun k hk => .inl hk)) (HKX.out.mono (fun k hk => .inr hk)) HCL.out hlcl HO.out).mono ?_
            clear hDD
            rw [HY.out]
            rintro e_ w9 ⟨Y2, y2, Y3, y3, Y4, y4, rfl, hkg, hb⟩
            simp only [TV]
            obtain ⟨m1, hm1⟩ : ∃ q, wr.heap.size = q := ⟨_, rfl⟩
            obtain ⟨m2, hm2⟩ : ∃ q, w9.heap.size = q := ⟨_, rfl⟩
            rw [hm1, hm2] at hkg
            have HKY := Aside0.mk hkg
            have HM0 : Aside0 (lo ≤ m1 ∧ m1 ≤ m2 ∧ m2 ≤ w9.heap.size ∧ v2 ≤ m1 ∧ u2 ≤ m1) := ⟨by have h1 := HLO.out; have h2 := hb.size; have h3 := HU.out; have h4 := HV.out; omega⟩
            have HW := Aside0.mk (HW.out.step hb)
            have HCL := Aside0.mk (Kd.C_below HCL.out hb)
            have HKT := Aside0.mk (HKT.out.move (Fr.below hb (fun k hk => by have := HU.out; omega)))
            have HU : Aside0 (lo ≤ u1 ∧ u1 ≤ u2 ∧ u2 ≤ w9.heap.size) := ⟨by have h1 := HU.out; have h2 := (hb).size; omega⟩
            have HKX := Aside0.mk (HKX.out.move (Fr.below hb (fun k hk => by have := HV.out; omega)))
            have HV : Aside0 (lo ≤ v1 ∧ v1 ≤ v2 ∧ v2 ≤ w9.heap.size) := ⟨by have h1 := HV.out; have h2 := (hb).size; omega⟩
            have HLO : Aside0 (lo ≤ w9.heap.size ∧ a < lo ∧ b < lo ∧ c < lo ∧ w.heap.size ≤ lo) := ⟨by have h1 := HLO.out; have h2 := (hb).size; omega⟩
            have HM := HM0
            clear hb hkg HM0 hm1 hm2
            generalize w9 = wr at *
            refine hK.out _ _ ⟨(blk_cell HW.out.ba 0).trans rfl, (blk_cell HW.out.ba 1).trans rfl, (blk_cell HW.out.ba 2).trans rfl, (blk_cell HW.out.ba 3).trans rfl, (blk_cell HW.out.ba 4).trans rfl, (blk_cell HW.out.bb 0).trans rfl, (blk_cell HW.out.bb 1).trans rfl, (blk_cell HW.out.bb 2).trans rfl, (blk_cell HW.out.bb 3).trans rfl, (blk_cell HW.out.bb 4).trans rfl⟩ (fun hHeld => ?_)
            clear hK K
            refine pure_ (i := 6) (N := some 30) (v := ?_) (a' := ?_) #[true, true, true, true, true, true, true, false, false, false, false, false] rfl rfl (by kernel_rfl) (fun _ _ _ h => h) (Or.inl ⟨by rfl, ?_⟩) ?_ ?_
            rotate_left
            · intro w'
              go_simp
              with_reducible rfl
            rotate_left
            · simp only [Act.put, List.setIfInBounds_toArray, List.set_cons_zero, List.set_cons_succ]
              rfl
            refine pure_ (i := 7) (N := some 37) (v := ?_) (a' := ?_) #[true, true, true, true, true, true, true, true, false, false, false, false] rfl rfl (by kernel_rfl) (fun _ _ _ h => h) (Or.inl ⟨by rfl, ?_⟩) ?_ ?_
            rotate_left
            · intro w'
              go_simp
              with_reducible rfl
            rotate_left
            · simp only [Act.put, List.setIfInBounds_toArray, List.set_cons_zero, List.set_cons_succ]
              rfl
            refine pure_ (i := 8) (N := some 38) (v := ?_) (a' := ?_) #[true, true, true, true, true, true, true, true, true, false, false, false] rfl rfl (by kernel_rfl) (fun _ _ _ h => h) (Or.inl ⟨by rfl, ?_⟩) ?_ ?_
            rotate_left
            · intro w'
              go_simp
              with_reducible rfl
            rotate_left
            · simp only [Act.put, List.setIfInBounds_toArray, List.set_cons_zero, List.set_cons_succ]
              rfl
            refine one_ (i := 9) (N := some 11) #[true, true, true, true, true, true, true, true, true, true, false, false] rfl rfl (by kernel_rfl) (by decide) (fun K hK => ?_)
            go_simp
            have hal := below_alloc (Below.refl _ wr) (.cells #[.int .i64 0, .bool false, .slice none 0 0, .slice none 0 0, .slice none 0 0] 26)
            have HE := Aside0.mk (heap_alloc_new wr (.cells #[.int .i64 0, .bool false, .slice none 0 0, .slice none 0 0, .slice none 0 0] 26))
            have HEL : Aside0 (lo ≤ wr.heap.size) := ⟨HLO.out.1⟩
            have HEU : Aside0 (u2 ≤ wr.heap.size) := ⟨HU.out.2.2⟩
            have HEV : Aside0 (v2 ≤ wr.heap.size) := ⟨HV.out.2.2⟩
            have HEM : Aside0 (m2 ≤ wr.heap.size) := ⟨HM.out.2.2.1⟩
            have HW := Aside0.mk (HW.out.step hal)
            have HCL := Aside0.mk (Kd.C_below HCL.out hal)
            have HKT := Aside0.mk (HKT.out.move (Fr.below hal (fun k hk => by have := HU.out; omega)))
            have HU : Aside0 (lo ≤ u1 ∧ u1 ≤ u2 ∧ u2 ≤ (wr.alloc (.cells #[.int .i64 0, .bool false, .slice none 0 0, .slice none 0 0, .slice none 0 0] 26)).heap.size) := ⟨by have h1 := HU.out; have h2 := (hal).size; omega⟩
            have HKX := Aside0.mk (HKX.out.move (Fr.below hal (fun k hk => by have := HV.out; omega)))
            have HV : Aside0 (lo ≤ v1 ∧ v1 ≤ v2 ∧ v2 ≤ (wr.alloc (.cells #[.int .i64 0, .bool false, .slice none 0 0, .slice none 0 0, .slice none 0 0] 26)).heap.size) := ⟨by have h1 := HV.out; have h2 := (hal).size; omega⟩
            have HKY := Aside0.mk (HKY.out.move (Fr.below hal (fun k hk => by have h1 := HM.out; have h2 := HU.out; have h3 := HV.out; rcases hk with (h | h) | h <;> omega)))
            have HM : Aside0 (lo ≤ m1 ∧ m1 ≤ m2 ∧ m2 ≤ (wr.alloc (.cells #[.int .i64 0, .bool false, .slice none 0 0, .slice none 0 0, .slice none 0 0] 26)).heap.size ∧ v2 ≤ m1 ∧ u2 ≤ m1) := ⟨by have h1 := HM.out; have h2 := (hal).size; omega⟩
            have HLO : Aside0 (lo ≤ (wr.alloc (.cells #[.int .i64 0, .bool false, .slice none 0 0, .slice none 0 0, .slice none 0 0] 26)).heap.size ∧ a < lo ∧ b < lo ∧ c < lo ∧ w.heap.size ≤ lo) := ⟨by have h1 := HLO.out; have h2 := (hal).size; omega⟩
            clear hal
            obtain ⟨eb, heb⟩ : ∃ q, wr.heap.size = q := ⟨_, rfl⟩
            rw [heb] at HE HEL ⊢
            rw [heb] at HEU
            rw [heb] at HEV
            rw [heb] at HEM
            clear heb
            generalize wr.alloc (.cells #[.int .i64 0, .bool false, .slice none 0 0, .slice none 0 0, .slice none 0 0] 26) = wr at *
            refine hK.out _ _ ⟨(blk_cell HW.out.ba 0).trans rfl, (blk_cell HW.out.ba 1).trans rfl, (blk_cell HW.out.ba 2).trans rfl, (blk_cell HW.out.ba 3).trans rfl, (blk_cell HW.out.ba 4).trans rfl, (blk_cell HW.out.bb 0).trans rfl, (blk_cell HW.out.bb 1).trans rfl, (blk_cell HW.out.bb 2).trans rfl, (blk_cell HW.out.bb 3).trans rfl, (blk_cell HW.out.bb 4).trans rfl⟩ (fun hHeld => ?_)
            clear hK K
            exact norm_ (by simp only [putAll, Act.put, List.setIfInBounds_toArray, List.set_cons_zero, List.set_cons_succ]; first | done | rfl) (hCont (((_, _), eb), (_, _)) _ ⟨Y2, y2, Y3, y3, Y4, y4, rfl, HW.out, HE.out, HEL.out, HKY.out.mono (fun k hk => by show lo ≤ k ∧ k ≠ eb; have h1 := HU.out; have h2 := HV.out; have h3 := HM.out; have h4 := HEU.out; have h5 := HEV.out; have h6 := HEM.out; rcases hk with (h | h) | h <;> omega)⟩)
          · skip
            go_simp
            have hal := below_alloc (Below.refl _ wr) (.cells #[.int .i64 0, .bool false, .slice none 0 0, .slice none 0 0, .slice none 0 0] 26)
            have HE := Aside0.mk (heap_alloc_new wr (.cells #[.int .i64 0, .bool false, .slice none 0 0, .slice none 0 0, .slice none 0 0] 26))
            have HEL : Aside0 (lo ≤ wr.heap.size) := ⟨HLO.out.1⟩
            have HEU : Aside0 (u2 ≤ wr.heap.size) := ⟨HU.out.2.2⟩
            have HEV : Aside0 (v2 ≤ wr.heap.size) := ⟨HV.out.2.2⟩
            have HW := Aside0.mk (HW.out.step hal)
            have HCL := Aside0.mk (Kd.C_below HCL.out hal)
            have HKT := Aside0.mk (HKT.out.move (Fr.below hal (fun k hk => by have := HU.out; omega)))
            have HU : Aside0 (lo ≤ u1 ∧ u1 ≤ u2 ∧ u2 ≤ (wr.alloc (.cells #[.int .i64 0, .bool false, .slice none 0 0, .slice none 0 0, .slice none 0 0] 26)).heap.size) := ⟨by have h1 := HU.out; have h2 := (hal).size; omega⟩
            have HKX := Aside0.mk (HKX.out.move (Fr.below hal (fun k hk => by have := HV.out; omega)))
            have HV : Aside0 (lo ≤ v1 ∧ v1 ≤ v2 ∧ v2 ≤ (wr.alloc (.cells #[.int .i64 0, .bool false, .slice none 0 0, .slice none 0 0, .slice none 0 0] 26)).heap.size) := ⟨by have h1 := HV.out; have h2 := (hal).size; omega⟩
            have HLO : Aside0 (lo ≤ (wr.alloc (.cells #[.int .i64 0, .bool false, .slice none 0 0, .slice none 0 0, .slice none 0 0] 26)).heap.size ∧ a < lo ∧ b < lo ∧ c < lo ∧ w.heap.size ≤ lo) := ⟨by have h1 := HLO.out; have h2 := (hal).size; omega⟩
            clear hal
            obtain ⟨eb, heb⟩ : ∃ q, wr.heap.size = q := ⟨_, rfl⟩
            rw [heb] at HE HEL ⊢
            rw [heb] at HEU
            rw [heb] at HEV
            clear heb
            generalize wr.alloc (.cells #[.int .i64 0, .bool false, .slice none 0 0, .slice none 0 0, .slice none 0 0] 26) = wr at *
            refine hK.out _ _ ⟨(blk_cell HW.out.ba 0).trans rfl, (blk_cell HW.out.ba 1).trans rfl, (blk_cell HW.out.ba 2).trans rfl, (blk_cell HW.out.ba 3).trans rfl, (blk_cell HW.out.ba 4).trans rfl, (blk_cell HW.out.bb 0).trans rfl, (blk_cell HW.out.bb 1).trans rfl, (blk_cell HW.out.bb 2).trans rfl, (blk_cell HW.out.bb 3).trans rfl, (blk_cell HW.out.bb 4).trans rfl⟩ (fun hHeld => ?_)
            clear hK K
            refine one_ (i := 5) (N := some 36) #[true, true, true, true, true, true, false, false, false, true, false, false] rfl rfl (by kernel_rfl) (by decide) (fun K hK => ?_)
            go_simp
            have hDD : ∀ k, ((u1 ≤ k ∧ k < u2) ∨ (v1 ≤ k ∧ k < v2)) → k < wr.heap.size := fun k hk => by have h1 := HU.out; have h2 := HV.out; omega
            refine (rput_any (fun k => (u1 ≤ k ∧ k < u2) ∨ (v1 ≤ k ∧ k < v2)) wr hDD l HLL.out N' t P2 p2 P3 p3 P4 p4 x Q2 q2 Q3 q3 Q4 q4 LA lc wr (Below.refl _ _) (HKT.out.mono (fun k hk => .inl hk)) (HKX.out.mono (fun k hk => .inr hk)) HCL.out hlcl HO.out).mono ?_
            clear hDD
            rw [HY.out]
            rintro e_ w9 ⟨Y2, y2, Y3, y3, Y4, y4, rfl, hkg, hb⟩
            simp only [TV]
            obtain ⟨m1, hm1⟩ : ∃ q, wr.heap.size = q := ⟨_, rfl⟩
            obtain ⟨m2, hm2⟩ : ∃ q, w9.heap.size = q := ⟨_, rfl⟩
            rw [hm1, hm2] at hkg
            have HKY := Aside0.mk hkg
            have HM0 : Aside0 (lo ≤ m1 ∧ m1 ≤ m2 ∧ m2 ≤ w9.heap.size ∧ v2 ≤ m1 ∧ u2 ≤ m1) := ⟨by have h1 := HLO.out; have h2 := hb.size; have h3 := HU.out; have h4 := HV.out; omega⟩
            have HEM : Aside0 (eb < m1) := ⟨by have := blk_lt HE.out; omega⟩
            have HW := Aside0.mk (HW.out.step hb)
            have HCL := Aside0.mk (Kd.C_below HCL.out hb)
            have HKT := Aside0.mk (HKT.out.move (Fr.below hb (fun k hk => by have := HU.out; omega)))
            have HU : Aside0 (lo ≤ u1 ∧ u1 ≤ u2 ∧ u2 ≤ w9.heap.size) := ⟨by have h1 := HU.out; have h2 := (hb).size; omega⟩
            have HKX := Aside0.mk (HKX.out.move (Fr.below hb (fun k hk => by have := HV.out; omega)))
            have HV : Aside0 (lo ≤ v1 ∧ v1 ≤ v2 ∧ v2 ≤ w9.heap.size) := ⟨by have h1 := HV.out; have h2 := (hb).size; omega⟩
            have HE := Aside0.mk ((hb.block _ (blk_lt HE.out)).trans HE.out)
            have HLO : Aside0 (lo ≤ w9.heap.size ∧ a < lo ∧ b < lo ∧ c < lo ∧ w.heap.size ≤ lo) := ⟨by have h1 := HLO.out; have h2 := (hb).size; omega⟩
            have HM := HM0
            clear hb hkg HM0 hm1 hm2
            generalize w9 = wr at *
            refine hK.out _ _ ⟨(blk_cell HW.out.ba 0).trans rfl, (blk_cell HW.out.ba 1).trans rfl, (blk_cell HW.out.ba 2).trans rfl, (blk_cell HW.out.ba 3).trans rfl, (blk_cell HW.out.ba 4).trans rfl, (blk_cell HW.out.bb 0).trans rfl, (blk_cell HW.out.bb 1).trans rfl, (blk_cell HW.out.bb 2).trans rfl, (blk_cell HW.out.bb 3).trans rfl, (blk_cell HW.out.bb 4).trans rfl⟩ (fun hHeld => ?_)
            clear hK K
            refine pure_ (i := 6) (N := some 30) (v := ?_) (a' := ?_) #[true, true, true, true, true, true, true, false, false, true, false, false] rfl rfl (by kernel_rfl) (fun _ _ _ h => h) (Or.inl ⟨by rfl, ?_⟩) ?_ ?_
            rotate_left
            · intro w'
              go_simp
              with_reducible rfl
            rotate_left
            · simp only [Act.put, List.setIfInBounds_toArray, List.set_cons_zero, List.set_cons_succ]
              rfl
            refine pure_ (i := 7) (N := some 37) (v := ?_) (a' := ?_) #[true, true, true, true, true, true, true, true, false, true, false, false] rfl rfl (by kernel_rfl) (fun _ _ _ h => h) (Or.inl ⟨by rfl, ?_⟩) ?_ ?_
            rotate_left
            · intro w'
              go_simp
              with_reducible rfl
            rotate_left
            · simp only [Act.put, List.setIfInBounds_toArray, List.set_cons_zero, List.set_cons_succ]
              rfl
            refine pure_ (i := 8) (N := some 38) (v := ?_) (a' := ?_) #[true, true, true, true, true, true, true, true, true, true, false, false] rfl rfl (by kernel_rfl) (fun _ _ _ h => h) (Or.inl ⟨by rfl, ?_⟩) ?_ ?_
            rotate_left
            · intro w'
              go_simp
              with_reducible rfl
            rotate_left
            · simp only [Act.put, List.setIfInBounds_toArray, List.set_cons_zero, List.set_cons_succ]
              rfl
            exact norm_ (by simp only [putAll, Act.put, List.setIfInBounds_toArray, List.set_cons_zero, List.set_cons_succ]; first | done | rfl) (hCont (((_, _), eb), (_, _)) _ ⟨Y2, y2, Y3, y3, Y4, y4, rfl, HW.out, HE.out, HEL.out, HKY.out.mono (fun k hk => by show lo ≤ k ∧ k ≠ eb; have h1 := HU.out; have h2 := HV.out; have h3 := HM.out; have h4 := HEU.out; have h5 := HEV.out; have h6 := HEM.out; rcases hk with (h | h) | h <;> omega)⟩)
        · skip
          go_simp
          have hal := below_alloc (Below.refl _ wr) (.cells #[.int .i64 0, .bool false, .slice none 0 0, .slice none 0 0, .slice none 0 0] 26)
          have HE := Aside0.mk (heap_alloc_new wr (.cells #[.int .i64 0, .bool false, .slice none 0 0, .slice none 0 0, .slice none 0 0] 26))
          have HEL : Aside0 (lo ≤ wr.heap.size) := ⟨HLO.out.1⟩
          have HEU : Aside0 (u2 ≤ wr.heap.size) := ⟨HU.out.2.2⟩
          have HW := Aside0.mk (HW.out.step hal)
          have HCL := Aside0.mk (Kd.C_below HCL.out hal)
          have HKT := Aside0.mk (HKT.out.move (Fr.below hal (fun k hk => by have := HU.out; omega)))
          have HU : Aside0 (lo ≤ u1 ∧ u1 ≤ u2 ∧ u2 ≤ (wr.alloc (.cells #[.int .i64 0, .bool false, .slice none 0 0, .slice none 0 0, .slice none 0 0] 26)).heap.size) := ⟨by have h1 := HU.out; have h2 := (hal).size; omega⟩
          have HLO : Aside0 (lo ≤ (wr.alloc (.cells #[.int .i64 0, .bool false, .slice none 0 0, .slice none 0 0, .slice none 0 0] 26)).heap.size ∧ a < lo ∧ b < lo ∧ c < lo ∧ w.heap.size ≤ lo) := ⟨by have h1 := HLO.out; have h2 := (hal).size; omega⟩
          clear hal
          obtain ⟨eb, heb⟩ : ∃ q, wr.heap.size = q := ⟨_, rfl⟩
          rw [heb] at HE HEL ⊢
          rw [heb] at HEU
          clear heb
          generalize wr.alloc (.cells #[.int .i64 0, .bool false, .slice none 0 0, .slice none 0 0, .slice none 0 0] 26) = wr at *
          refine hK.out _ _ ⟨(blk_cell HW.out.ba 0).trans rfl, (blk_cell HW.out.ba 1).trans rfl, (blk_cell HW.out.ba 2).trans rfl, (blk_cell HW.out.ba 3).trans rfl, (blk_cell HW.out.ba 4).trans rfl, (blk_cell HW.out.bb 0).trans rfl, (blk_cell HW.out.bb 1).trans rfl, (blk_cell HW.out.bb 2).trans rfl, (blk_cell HW.out.bb 3).trans rfl, (blk_cell HW.out.bb 4).trans rfl⟩ (fun hHeld => ?_)
          clear hK K
          refine one_ (i := 4) (N := some 35) #[true, true, true, true, true, false, false, false, false, true, false, false] rfl rfl (by kernel_rfl) (by decide) (fun K hK => ?_)
          go_simp
          refine (Clone_any M x A2 c2 A3 c3 A4 c4 wr (HT.out.2.1.below HW.out.bel) HG.out.2).mono ?_
          rintro e_ w9 ⟨Q2, q2, Q3, q3, Q4, q4, rfl, ho, -, hb⟩
          simp only [TV]
          obtain ⟨v1, hv1⟩ : ∃ q, wr.heap.size = q := ⟨_, rfl⟩
          obtain ⟨v2, hv2⟩ : ∃ q, w9.heap.size = q := ⟨_, rfl⟩
          have hkg := OT.KG ho
          rw [hv1, hv2] at hkg
          have HKX := Aside0.mk hkg
          have HV0 : Aside0 (lo ≤ v1 ∧ v1 ≤ v2 ∧ v2 ≤ w9.heap.size) := ⟨by have h1 := HLO.out; have h2 := hb.size; omega⟩
          have HEV : Aside0 (eb < v1) := ⟨by have := blk_lt HE.out; omega⟩
          have HW := Aside0.mk (HW.out.step hb)
          have HCL := Aside0.mk (Kd.C_below HCL.out hb)
          have HKT := Aside0.mk (HKT.out.move (Fr.below hb (fun k hk => by have := HU.out; omega)))
          have HU : Aside0 (lo ≤ u1 ∧ u1 ≤ u2 ∧ u2 ≤ w9.heap.size) := ⟨by have h1 := HU.out; have h2 := (hb).size; omega⟩
          have HE := Aside0.mk ((hb.block _ (blk_lt HE.out)).trans HE.out)
          have HLO : Aside0 (lo ≤ w9.heap.size ∧ a < lo ∧ b < lo ∧ c < lo ∧ w.heap.size ≤ lo) := ⟨by have h1 := HLO.out; have h2 := (hb).size; omega⟩
          have HV := HV0
          clear hb ho hkg HV0 hv1 hv2
          generalize w9 = wr at *
          refine hK.out _ _ ⟨(blk_cell HW.out.ba 0).trans rfl, (blk_cell HW.out.ba 1).trans rfl, (blk_cell HW.out.ba 2).trans rfl, (blk_cell HW.out.ba 3).trans rfl, (blk_cell HW.out.ba 4).trans rfl, (blk_cell HW.out.bb 0).trans rfl, (blk_cell HW.out.bb 1).trans rfl, (blk_cell HW.out.bb 2).trans rfl, (blk_cell HW.out.bb 3).trans rfl, (blk_cell HW.out.bb 4).trans rfl⟩ (fun hHeld => ?_)
          clear hK K
          refine one_ (i := 5) (N := some 36) #[true, true, true, true, true, true, false, false, false, true, false, false] rfl rfl (by kernel_rfl) (by decide) (fun K hK => ?_)
          go_simp
          have hDD : ∀ k, ((u1 ≤ k ∧ k < u2) ∨ (v1 ≤ k ∧ k < v2)) → k < wr.heap.size := fun k hk => by have h1 := HU.out; have h2 := HV.out; omega
          refine (rput_any (fun k => (u1 ≤ k ∧ k < u2) ∨ (v1 ≤ k ∧ k < v2)) wr hDD l HLL.out N' t P2 p2 P3 p3 P4 p4 x Q2 q2 Q3 q3 Q4 q4 LA lc wr (Below.refl _ _) (HKT.out.mono (fun k hk => .inl hk)) (HKX.out.mono (fun k hk => .inr hk)) HCL.out hlcl HO.out).mono ?_
          clear hDD
          rw [HY.out]
          rintro e_ w9 ⟨Y2, y2, Y3, y3, Y4, y4, rfl, hkg, hb⟩
          simp only [TV]
          obtain ⟨m1, hm1⟩ : ∃ q, wr.heap.size = q := ⟨_, rfl⟩
          obtain ⟨m2, hm2⟩ : ∃ q, w9.heap.size = q := ⟨_, rfl⟩
          rw [hm1, hm2] at hkg
          have HKY := Aside0.mk hkg
          have HM0 : Aside0 (lo ≤ m1 ∧ m1 ≤ m2 ∧ m2 ≤ w9.heap.size ∧ v2 ≤ m1 ∧ u2 ≤ m1) := ⟨by have h1 := HLO.out; have h2 := hb.size; have h3 := HU.out; have h4 := HV.out; omega⟩
          have HEM : Aside0 (eb < m1) := ⟨by have := blk_lt HE.out; omega⟩
          have HW := Aside0.mk (HW.out.step hb)
          have HCL := Aside0.mk (Kd.C_below HCL.out hb)
          have HKT := Aside0.mk (HKT.out.move (Fr.below hb (fun k hk => by have := HU.out; omega)))
          have HU : Aside0 (lo ≤ u1 ∧ u1 ≤ u2 ∧ u2 ≤ w9.heap.size) := ⟨by have h1 := HU.out; have h2 := (hb).size; omega⟩
          have HKX := Aside0.mk (HKX.out.move (Fr.below hb (fun k hk => by have := HV.out; omega)))
          have HV : Aside0 (lo ≤ v1 ∧ v1 ≤ v2 ∧ v2 ≤ w9.heap.size) := ⟨by have h1 := HV.out; have h2 := (hb).size; omega⟩
          have HE := Aside0.mk ((hb.block _ (blk_lt HE.out)).trans HE.out)
          have HLO : Aside0 (lo ≤ w9.heap.size ∧ a < lo ∧ b < lo ∧ c < lo ∧ w.heap.size ≤ lo) := ⟨by have h1 := HLO.out; have h2 := (hb).size; omega⟩
          have HM := HM0
          clear hb hkg HM0 hm1 hm2
          generalize w9 = wr at *
          refine hK.out _ _ ⟨(blk_cell HW.out.ba 0).trans rfl, (blk_cell HW.out.ba 1).trans rfl, (blk_cell HW.out.ba 2).trans rfl, (blk_cell HW.out.ba 3).trans rfl, (blk_cell HW.out.ba 4).trans rfl, (blk_cell HW.out.bb 0).trans rfl, (blk_cell HW.out.bb 1).trans rfl, (blk_cell HW.out.bb 2).trans rfl, (blk_cell HW.out.bb 3).trans rfl, (blk_cell HW.out.bb 4).trans rfl⟩ (fun hHeld => ?_)
          clear hK K
          refine pure_ (i := 6) (N := some 30) (v := ?_) (a' := ?_) #[true, true, true, true, true, true, true, false, false, true, false, false] rfl rfl (by kernel_rfl) (fun _ _ _ h => h) (Or.inl ⟨by rfl, ?_⟩) ?_ ?_
          rotate_left
          · intro w'
            go_simp
            with_reducible rfl
          rotate_left
          · simp only [Act.put, List.setIfInBounds_toArray, List.set_cons_zero, List.set_cons_succ]
            rfl
          refine pure_ (i := 7) (N := some 37) (v := ?_) (a' := ?_) #[true, true, true, true, true, true, true, true, false, true, false, false] rfl rfl (by kernel_rfl) (fun _ _ _ h => h) (Or.inl ⟨by rfl, ?_⟩) ?_ ?_
          rotate_left
          · intro w'
            go_simp
            with_reducible rfl
          rotate_left
          · simp only [Act.put, List.setIfInBounds_toArray, List.set_cons_zero, List.set_cons_succ]
            rfl
          refine pure_ (i := 8) (N := some 38) (v := ?_) (a' := ?_) #[true, true, true, true, true, true, true, true, true, true, false, false] rfl rfl (by kernel_rfl) (fun _ _ _ h => h) (Or.inl ⟨by rfl, ?_⟩) ?_ ?_
          rotate_left
          · intro w'
            go_simp
            with_reducible rfl
          rotate_left
          · simp only [Act.put, List.setIfInBounds_toArray, List.set_cons_zero, List.set_cons_succ]
            rfl
          exact norm_ (by simp only [putAll, Act.put, List.setIfInBounds_toArray, List.set_cons_zero, List.set_cons_succ]; first | done | rfl) (hCont (((_, _), eb), (_, _)) _ ⟨Y2, y2, Y3, y3, Y4, y4, rfl, HW.out, HE.out, HEL.out, HKY.out.mono (fun k hk => by show lo ≤ k ∧ k ≠ eb; have h1 := HU.out; have h2 := HV.out; have h3 := HM.out; have h4 := HEU.out; have h5 := HEV.out; have h6 := HEM.out; rcases hk with (h | h) | h <;> omega)⟩)
      · skip
        go_simp
        have hal := below_alloc (Below.refl _ wr) (.cells #[.int .i64 0, .bool false, .slice none 0 0, .slice none 0 0, .slice none 0 0] 26)
        have HE := Aside0.mk (heap_alloc_new wr (.cells #[.int .i64 0, .bool false, .slice none 0 0, .slice none 0 0, .slice none 0 0] 26))
        have HEL : Aside0 (lo ≤ wr.heap.size) := ⟨HLO.out.1⟩
        have HW := Aside0.mk (HW.out.step hal)
        have HCL := Aside0.mk (Kd.C_below HCL.out hal)
        have HLO : Aside0 (lo ≤ (wr.alloc (.cells #[.int .i64 0, .bool false, .slice none 0 0, .slice none 0 0, .slice none 0 0] 26)).heap.size ∧ a < lo ∧ b < lo ∧ c < lo ∧ w.heap.size ≤ lo) := ⟨by have h1 := HLO.out; have h2 := (hal).size; omega⟩
        clear hal
        obtain ⟨eb, heb⟩ : ∃ q, wr.heap.size = q := ⟨_, rfl⟩
        rw [heb] at HE HEL ⊢
        clear heb
        generalize wr.alloc (.cells #[.int .i64 0, .bool false, .slice none 0 0, .slice none 0 0, .slice none 0 0] 26) = wr at *
        refine hK.out _ _ ⟨(blk_cell HW.out.ba 0).trans rfl, (blk_cell HW.out.ba 1).trans rfl, (blk_cell HW.out.ba 2).trans rfl, (blk_cell HW.out.ba 3).trans rfl, (blk_cell HW.out.ba 4).trans rfl, (blk_cell HW.out.bb 0).trans rfl, (blk_cell HW.out.bb 1).trans rfl, (blk_cell HW.out.bb 2).trans rfl, (blk_cell HW.out.bb 3).trans rfl, (blk_cell HW.out.bb 4).trans rfl⟩ (fun hHeld => ?_)
        clear hK K
        refine one_ (i := 1) (N := some 32) #[true, true, true, true, false, false, false, false, false, true, false, false] rfl rfl (by kernel_rfl) (by decide) (fun K hK => ?_)
        go_simp
        refine (Clone_any N t T2 e2 T3 e3 T4 e4 wr (HT.out.1.below HW.out.bel) HG.out.1).mono ?_
        rintro e_ w9 ⟨P2, p2, P3, p3, P4, p4, rfl, ho, -, hb⟩
        simp only [TV]
        obtain ⟨u1, hu1⟩ : ∃ q, wr.heap.size = q := ⟨_, rfl⟩
        obtain ⟨u2, hu2⟩ : ∃ q, w9.heap.size = q := ⟨_, rfl⟩
        have hkg := OT.KG ho
        rw [hu1, hu2] at hkg
        have HKT := Aside0.mk hkg
        have HU0 : Aside0 (lo ≤ u1 ∧ u1 ≤ u2 ∧ u2 ≤ w9.heap.size) := ⟨by have h1 := HLO.out; have h2 := hb.size; omega⟩
        have HEU : Aside0 (eb < u1) := ⟨by have := blk_lt HE.out; omega⟩
        have HW := Aside0.mk (HW.out.step hb)
        have HCL := Aside0.mk (Kd.C_below HCL.out hb)
        have HE := Aside0.mk ((hb.block _ (blk_lt HE.out)).trans HE.out)
        have HLO : Aside0 (lo ≤ w9.heap.size ∧ a < lo ∧ b < lo ∧ c < lo ∧ w.heap.size ≤ lo) := ⟨by have h1 := HLO.out; have h2 := (hb).size; omega⟩
        have HU := HU0
        clear hb ho hkg HU0 hu1 hu2
        generalize w9 = wr at *
        refine hK.out _ _ ⟨(blk_cell HW.out.ba 0).trans rfl, (blk_cell HW.out.ba 1).trans rfl, (blk_cell HW.out.ba 2).trans rfl, (blk_cell HW.out.ba 3).trans rfl, (blk_cell HW.out.ba 4).trans rfl, (blk_cell HW.out.bb 0).trans rfl, (blk_cell HW.out.bb 1).trans rfl, (blk_cell HW.out.bb 2).trans rfl, (blk_cell HW.out.bb 3).trans rfl, (blk_cell HW.out.bb 4).trans rfl⟩ (fun hHeld => ?_)
        clear hK K
        refine one_ (i := 4) (N := some 35) #[true, true, true, true, true, false, false, false, false, true, false, false] rfl rfl (by kernel_rfl) (by decide) (fun K hK => ?_)
        go_simp
        refine (Clone_any M x A2 c2 A3 c3 A4 c4 wr (HT.out.2.1.below HW.out.bel) HG.out.2).mono ?_
        rintro e_ w9 ⟨Q2, q2, Q3, q3, Q4, q4, rfl, ho, -, hb⟩
        simp only [TV]
        obtain ⟨v1, hv1⟩ : ∃ q, wr.heap.size = q := ⟨_, rfl⟩
        obtain ⟨v2, hv2⟩ : ∃ q, w9.heap.size = q := ⟨_, rfl⟩
        have hkg := OT.KG ho
        rw [hv1, hv2] at hkg
        have HKX := Aside0.mk hkg
        have HV0 : Aside0 (lo ≤ v1 ∧ v1 ≤ v2 ∧ v2 ≤ w9.heap.size) := ⟨by have h1 := HLO.out; have h2 := hb.size; omega⟩
        have HEV : Aside0 (eb < v1) := ⟨by have := blk_lt HE.out; omega⟩
        have HW := Aside0.mk (HW.out.step hb)
        have HCL := Aside0.mk (Kd.C_below HCL.out hb)
        have HKT := Aside0.mk (HKT.out.move (Fr.below hb (fun k hk => by have := HU.out; omega)))
        have HU : Aside0 (lo ≤ u1 ∧ u1 ≤ u2 ∧ u2 ≤ w9.heap.size) := ⟨by have h1 := HU.out; have h2 := (hb).size; omega⟩
        have HE := Aside0.mk ((hb.block _ (blk_lt HE.out)).trans HE.out)
        have HLO : Aside0 (lo ≤ w9.heap.size ∧ a < lo ∧ b < lo ∧ c < lo ∧ w.heap.size ≤ lo) := ⟨by have h1 := HLO.out; have h2 := (hb).size; omega⟩
        have HV := HV0
        clear hb ho hkg HV0 hv1 hv2
        generalize w9 = wr at *
        refine hK.out _ _ ⟨(blk_cell HW.out.ba 0).trans rfl, (blk_cell HW.out.ba 1).trans rfl, (blk_cell HW.out.ba 2).trans rfl, (blk_cell HW.out.ba 3).trans rfl, (blk_cell HW.out.ba 4).trans rfl, (blk_cell HW.out.bb 0).trans rfl, (blk_cell HW.out.bb 1).trans rfl, (blk_cell HW.out.bb 2).trans rfl, (blk_cell HW.out.bb 3).trans rfl, (blk_cell HW.out.bb 4).trans rfl⟩ (fun hHeld => ?_)
        clear hK K
        refine one_ (i := 5) (N := some 36) #[true, true, true, true, true, true, false, false, false, true, false, false] rfl rfl (by kernel_rfl) (by decide) (fun K hK => ?_)
        go_simp
        have hDD : ∀ k, ((u1 ≤ k ∧ k < u2) ∨ (v1 ≤ k ∧ k < v2)) → k < wr.heap.size := fun k hk => by have h1 := HU.out; have h2 := HV.out; omega
        refine (rput_any (fun k => (u1 ≤ k ∧ k < u2) ∨ (v1 ≤ k ∧ k < v2)) wr hDD l HLL.out N' t P2 p2 P3 p3 P4 p4 x Q2 q2 Q3 q3 Q4 q4 LA lc wr (Below.refl _ _) (HKT.out.mono (fun k hk => .inl hk)) (HKX.out.mono (fun k hk => .inr hk)) HCL.out hlcl HO.out).mono ?_
        clear hDD
        rw [HY.out]
        rintro e_ w9 ⟨Y2, y2, Y3, y3, Y4, y4, rfl, hkg, hb⟩
        simp only [TV]
        obtain ⟨m1, hm1⟩ : ∃ q, wr.heap.size = q := ⟨_, rfl⟩
        obtain ⟨m2, hm2⟩ : ∃ q, w9.heap.size = q := ⟨_, rfl⟩
        rw [hm1, hm2] at hkg
        have HKY := Aside0.mk hkg
        have HM0 : Aside0 (lo ≤ m1 ∧ m1 ≤ m2 ∧ m2 ≤ w9.heap.size ∧ v2 ≤ m1 ∧ u2 ≤ m1) := ⟨by have h1 := HLO.out; have h2 := hb.size; have h3 := HU.out; have h4 := HV.out; omega⟩
        have HEM : Aside0 (eb < m1) := ⟨by have := blk_lt HE.out; omega⟩
        have HW := Aside0.mk (HW.out.step hb)
        have HCL := Aside0.mk (Kd.C_below HCL.out hb)
        have HKT := Aside0.mk (HKT.out.move (Fr.below hb (fun k hk => by have := HU.out; omega)))
        have HU : Aside0 (lo ≤ u1 ∧ u1 ≤ u2 ∧ u2 ≤ w9.heap.size) := ⟨by have h1 := HU.out; have h2 := (hb).size; omega⟩
        have HKX := Aside0.mk (HKX.out.move (Fr.below hb (fun k hk => by have := HV.out; omega)))
        have HV : Aside0 (lo ≤ v1 ∧ v1 ≤ v2 ∧ v2 ≤ w9.heap.size) := ⟨by have h1 := HV.out; have h2 := (hb).size; omega⟩
        have HE := Aside0.mk ((hb.block _ (blk_lt HE.out)).trans HE.out)
        have HLO : Aside0 (lo ≤ w9.heap.size ∧ a < lo ∧ b < lo ∧ c < lo ∧ w.heap.size ≤ lo) := ⟨by have h1 := HLO.out; have h2 := (hb).size; omega⟩
        have HM := HM0
        clear hb hkg HM0 hm1 hm2
        generalize w9 = wr at *
        refine hK.out _ _ ⟨(blk_cell HW.out.ba 0).trans rfl, (blk_cell HW.out.ba 1).trans rfl, (blk_cell HW.out.ba 2).trans rfl, (blk_cell HW.out.ba 3).trans rfl, (blk_cell HW.out.ba 4).trans rfl, (blk_cell HW.out.bb 0).trans rfl, (blk_cell HW.out.bb 1).trans rfl, (blk_cell HW.out.bb 2).trans rfl, (blk_cell HW.out.bb 3).trans rfl, (blk_cell HW.out.bb 4).trans rfl⟩ (fun hHeld => ?_)
        clear hK K
        refine pure_ (i := 6) (N := some 30) (v := ?_) (a' := ?_) #[true, true, true, true, true, true, true, false, false, true, false, false] rfl rfl (by kernel_rfl) (fun _ _ _ h => h) (Or.inl ⟨by rfl, ?_⟩) ?_ ?_
        rotate_left
        · intro w'
          go_simp
          with_reducible rfl
        rotate_left
        · simp only [Act.put, List.setIfInBounds_toArray, List.set_cons_zero, List.set_cons_succ]
          rfl
        refine pure_ (i := 7) (N := some 37) (v := ?_) (a' := ?_) #[true, true, true, true, true, true, true, true, false, true, false, false] rfl rfl (by kernel_rfl) (fun _ _ _ h => h) (Or.inl ⟨by rfl, ?_⟩) ?_ ?_
        rotate_left
        · intro w'
          go_simp
          with_reducible rfl
        rotate_left
        · simp only [Act.put, List.setIfInBounds_toArray, List.set_cons_zero, List.set_cons_succ]
          rfl
        refine pure_ (i := 8) (N := some 38) (v := ?_) (a' := ?_) #[true, true, true, true, true, true, true, true, true, true, false, false] rfl rfl (by kernel_rfl) (fun _ _ _ h => h) (Or.inl ⟨by rfl, ?_⟩) ?_ ?_
        rotate_left
        · intro w'
          go_simp
          with_reducible rfl
        rotate_left
        · simp only [Act.put, List.setIfInBounds_toArray, List.set_cons_zero, List.set_cons_succ]
          rfl
        exact norm_ (by simp only [putAll, Act.put, List.setIfInBounds_toArray, List.set_cons_zero, List.set_cons_succ]; first | done | rfl) (hCont (((_, _), eb), (_, _)) _ ⟨Y2, y2, Y3, y3, Y4, y4, rfl, HW.out, HE.out, HEL.out, HKY.out.mono (fun k hk => by show lo ≤ k ∧ k ≠ eb; have h1 := HU.out; have h2 := HV.out; have h3 := HM.out; have h4 := HEU.out; have h5 := HEV.out; have h6 := HEM.out; rcases hk with (h | h) | h <;> omega)⟩)
    rintro ⟨⟨⟨z1, z2⟩, eb⟩, ⟨z3, z4⟩⟩ wd ⟨Y2, y2, Y3, y3, Y4, y4, he, hW, hE, hEL, hKY⟩
    obtain ⟨rfl, rfl⟩ := Prod.mk.inj he
    simp only at hE hEL hKY
    clear HW HCL hHeld he HLO
    have HW := Aside0.mk hW
    have HE := Aside0.mk hE
    have HLO2 : Aside0 (lo ≤ eb) := ⟨hEL⟩
    have HKY := Aside0.mk hKY
    clear hW hE hEL hKY wr
    refine norm_ (a' := ?_) (by simp only [putAll, Act.put, List.setIfInBounds_toArray, List.set_cons_zero, List.set_cons_succ]; rfl) ?_
    refine last_ (i := 10) (N := none) #[true, true, true, true, true, true, true, true, true, true, true, false] rfl rfl (by kernel_rfl) (by decide) (fun K hK => ?_)
    obtain ⟨x0, x1, x2, x3, x4⟩ := cells5 HE.out
    have f0 := blk_frozen HE.out 0
    have f1 := blk_frozen HE.out 1
    have f2 := blk_frozen HE.out 2
    have f3 := blk_frozen HE.out 3
    have f4 := blk_frozen HE.out 4
    go_simp
    clear f0 f1 f2 f3 f4 x0 x1 x2 x3 x4
    refine hK.out _ _ ?_
    clear hK K
    refine pure_ (i := 11) (N := some 10) (v := ?_) (a' := ?_) #[true, true, true, true, true, true, true, true, true, true, true, true] rfl rfl (by kernel_rfl) (fun _ _ _ h => h) (Or.inl ⟨by rfl, ?_⟩) ?_ ?_
    rotate_left
    · intro w'
      go_simp
      with_reducible rfl
    rotate_left
    · simp only [Act.put, List.setIfInBounds_toArray, List.set_cons_zero, List.set_cons_succ]
      rfl
    refine done_ (by kernel_rfl) ?_
    have HW2 := Aside0.mk (HW.out.setd (d := eb) (by have := HLOK.out; have := HLO2.out; omega) (by have := HLOK.out; have := HLO2.out; omega) (by have := HLOK.out; have := HLO2.out; omega) (by have := HLOK.out; have := HLO2.out; omega) (.int .i64 y.f0) (.bool y.f1) (.slice Y2 y.f2.length y2) (.slice Y3 y.f3.length y3) (.slice Y4 y.f4.length y4))
    have HE2 := Aside0.mk (box_same HE.out (.int .i64 y.f0) (.bool y.f1) (.slice Y2 y.f2.length y2) (.slice Y3 y.f3.length y3) (.slice Y4 y.f4.length y4))
    have HKY2 := Aside0.mk (HKY.out.move (Fr.box wd eb (.int .i64 y.f0) (.bool y.f1) (.slice Y2 y.f2.length y2) (.slice Y3 y.f3.length y3) (.slice Y4 y.f4.length y4) (fun k hk => hk.2)))
    clear HW HE HKY
    generalize (((((wd.setCell ⟨eb, 0, none⟩ (.int .i64 y.f0)).setCell ⟨eb, 1, none⟩ (.bool y.f1)).setCell ⟨eb, 2, none⟩ (.slice Y2 y.f2.length y2)).setCell ⟨eb, 3, none⟩ (.slice Y3 y.f3.length y3)).setCell ⟨eb, 4, none⟩ (.slice Y4 y.f4.length y4)) = we at *
    have HW := HW2
    have HE := HE2
    have HKY := HKY2
    clear HW2 HE2 HKY2
    have HRP := Aside0.mk (rput_put l t x)
    rw [HY.out] at HRP
    cases ok with
    | false =>
      have HPS : Aside0 (putS l t x = (z0, 8)) := ⟨by rcases HRP.out with ⟨h, -⟩ | ⟨-, h⟩; cases h; exact h⟩
      have HP : Aside0 (PutS N M t place x = (z0, 8)) := ⟨PutS_e4 HK1.out HK2.out (by rw [HL.out.1]; exact HL.out.2) (by rw [HL.out.1]; exact HPS.out) (by decide)⟩
      obtain ⟨b0, b1, b2, b3, b4⟩ := cells5 HW.out.bc
      have f0 := blk_frozen HW.out.bc 0
      have f1 := blk_frozen HW.out.bc 1
      have f2 := blk_frozen HW.out.bc 2
      have f3 := blk_frozen HW.out.bc 3
      have f4 := blk_frozen HW.out.bc 4
      have HF := Aside0.mk (HW.out.setc (.int .i64 0) (.bool false) (.slice none 0 0) (.slice none 0 0) (.slice none 0 0))
      go_wp2_with fail
      refine bodyPost_ret (results_c1 rfl _ _ c 26 _ (0, 0) _ rfl HF.out.bc Tryd.underlying26 rfl (by kernel_rfl)) rfl ?_
      exact RQ.zero HP.out HF.out.bel
    | true =>
      have HPS : Aside0 (putS l t x = (y, 0)) := ⟨by rcases HRP.out with ⟨-, h⟩ | ⟨h, -⟩; exact h; cases h⟩
      have HGR : Aside0 (GT (N + M + l.length + 1) y) := ⟨by have h9 := put_GT l N (N' + 1) M (N + M + l.length + 1) t x HG.out.1 HO.out HG.out.2 (fun n hn => isE_size (List.all_eq_true.1 HL.out.2 n hn)) (by omega); rw [HPS.out] at h9; exact h9⟩
      obtain ⟨x0, x1, x2, x3, x4⟩ := cells5 HE.out
      go_wp2_with fail
      clear x0 x1 x2 x3 x4
      refine (RCheck_any (N + M + l.length + 1) y Y2 y2 Y3 y3 Y4 y4 we (HKY.out.TR (Fr.refl _ _)) HGR.out).mono ?_
      rintro e wf ⟨rfl, hb⟩
      have HTY := Aside0.mk (fun (v0 v1 v2 v3 v4 : Value) => KG_setc HKY.out hb c (by have := HLOK.out; omega) v0 v1 v2 v3 v4)
      have HW := Aside0.mk (HW.out.step hb)
      have HE := Aside0.mk ((hb.block _ (blk_lt HE.out)).trans HE.out)
      clear hb HKY
      obtain ⟨k3, hk3⟩ : ∃ q, (chk (N + M + l.length + 1) y 1 0).1 = q := ⟨_, rfl⟩
      rw [hk3]
      have HK3 := Aside0.mk hk3
      clear hk3
      by_cases hz : k3 = 0
      rotate_left
      · skip
        have hkb : (k3 != 0) = true := by simpa using hz
        have hkc : (k3 == 0) = false := by simpa using hz
        have HP : Aside0 (PutS N M t place x = (z0, k3)) := ⟨PutS_e5 HK1.out HK2.out (by rw [HL.out.1]; exact HL.out.2) (by rw [HL.out.1]; exact HPS.out) (by rw [HL.out.1]; exact HK3.out) hz⟩
        clear hz
        obtain ⟨b0, b1, b2, b3, b4⟩ := cells5 HW.out.bc
        have f0 := blk_frozen HW.out.bc 0
        have f1 := blk_frozen HW.out.bc 1
        have f2 := blk_frozen HW.out.bc 2
        have f3 := blk_frozen HW.out.bc 3
        have f4 := blk_frozen HW.out.bc 4
        have HF := Aside0.mk (HW.out.setc (.int .i64 0) (.bool false) (.slice none 0 0) (.slice none 0 0) (.slice none 0 0))
        go_wp2_with fail
        refine bodyPost_ret (results_c1 rfl _ _ c 26 _ (0, 0) _ rfl HF.out.bc Tryd.underlying26 rfl (by kernel_rfl)) rfl ?_
        exact RQ.zero HP.out HF.out.bel
      subst hz
      obtain ⟨x0, x1, x2, x3, x4⟩ := cells5 HE.out
      obtain ⟨b0, b1, b2, b3, b4⟩ := cells5 HW.out.bc
      have f0 := blk_frozen HW.out.bc 0
      have f1 := blk_frozen HW.out.bc 1
      have f2 := blk_frozen HW.out.bc 2
      have f3 := blk_frozen HW.out.bc 3
      have f4 := blk_frozen HW.out.bc 4
      have HF := Aside0.mk (HW.out.setc (.int .i64 y.f0) (.bool y.f1) (.slice Y2 y.f2.length y2) (.slice Y3 y.f3.length y3) (.slice Y4 y.f4.length y4))
      have HTF := Aside0.mk (HTY.out (.int .i64 y.f0) (.bool y.f1) (.slice Y2 y.f2.length y2) (.slice Y3 y.f3.length y3) (.slice Y4 y.f4.length y4))
      have HP : Aside0 (PutS N M t place x = (y, 0)) := ⟨PutS_ok HK1.out HK2.out (by rw [HL.out.1]; exact HL.out.2) (by rw [HL.out.1]; exact HPS.out) (by rw [HL.out.1]; exact HK3.out)⟩
      go_wp2_with fail
      refine bodyPost_ret (results_c1 rfl _ _ c 26 _ (0, 0) _ rfl HF.out.bc Tryd.underlying26 rfl (by kernel_rfl)) rfl ?_
      exact RQ.of HP.out HTF.out HF.out.bel
end Go.Proofs.YtfnofjcdaghniaaDoor.Tree
