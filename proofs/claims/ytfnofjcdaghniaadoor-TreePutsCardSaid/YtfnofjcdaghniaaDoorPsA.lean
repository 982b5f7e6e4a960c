/- TreePuts, walked. Own work; printed by gen_ps.py. -/
import Derived.Test.YtfnofjcdaghniaaDoorRgJ
import Derived.Test.YtfnofjcdaghniaaDoorRgJ
import Derived.Test.YtfnofjcdaghniaaDoorRgJ
import Derived.Test.YtfnofjcdaghniaaDoorRgJ
namespace Go.Proofs.YtfnofjcdaghniaaDoor.Tree
set_option linter.unusedVariables false
set_option linter.unusedSimpArgs false
open Go.RowKit Go.Proofs.YtfnofjcdaghniaaDoor.PL Go.Proofs.YtfnofjcdaghniaaDoor.Mt Go.Proofs.YtfnofjcdaghniaaDoorW.PrintWords Go.Proofs.YtfnofjcdaghniaaDoorW.PrintLast Go.Proofs.YtfnofjcdaghniaaDoorW.PrintMore
/-- what was put stands there -/
theorem at_same : ∀ (l : List ByteArray) (N : Nat) (t x r : S26), Okt N t → putS l t x = (r, 0) → atS l r = (x, 0) := by
  intro l
  induction l with
  | nil => intro N t x r hO hp; rw [putS] at hp; rw [← (Prod.mk.inj hp).1]; rfl
  | cons a l ih =>
    intro N t x r hO hp
    have h2 : t.f0 = 2 := by
      by_cases h : t.f0 = 2
      · exact h
      · rw [putS, if_pos h] at hp
        have := (Prod.mk.inj hp).2
        simp at this
    obtain ⟨hs, -⟩ := OktS hO
    have hL := OktL hO
    cases hh : hasS t.f3 a with
    | true =>
      obtain ⟨ha1, ha2⟩ := has_get hh
      obtain ⟨⟨r1, k⟩, hr⟩ : ∃ q, putS l (t.f4.getD (posS t.f3 a) dir0) x = q := ⟨_, rfl⟩
      have hk : k = 0 := by
        by_cases hk : k = 0
        · exact hk
        · rw [putS_err_t h2 hh rfl hr hk] at hp; exact absurd (Prod.mk.inj hp).2 hk
      subst hk
      rw [putS_ok_t h2 hh rfl hr] at hp
      have he := (Prod.mk.inj hp).1
      subst he
      have hin : posS t.f3 a < t.f4.length := by omega
      have hmem : t.f4.getD (posS t.f3 a) dir0 ∈ t.f4 := by rw [List.getD_eq_getElem?_getD, List.getElem?_eq_getElem hin]; exact List.getElem_mem hin
      rw [atS, if_pos hh]
      show atS l ((t.f4.set (posS t.f3 a) r1).getD (posS t.f3 a) dir0) = (x, 0)
      rw [List.getD_eq_getElem?_getD, List.getElem?_set_self hin, Option.getD_some]
      exact ih N _ x r1 (Okt_kid hO hmem) hr
    | false =>
      obtain ⟨⟨r1, k⟩, hr⟩ : ∃ q, putS l dir0 x = q := ⟨_, rfl⟩
      have hk : k = 0 := by
        by_cases hk : k = 0
        · exact hk
        · rw [putS_err_f h2 hh hr hk] at hp; exact absurd (Prod.mk.inj hp).2 hk
      subst hk
      rw [putS_ok_f h2 hh hr] at hp
      have he := (Prod.mk.inj hp).1
      subst he
      have hle := posS_le t.f3 a
      have hlen : (t.f4.take (posS t.f3 a)).length = posS t.f3 a := by rw [List.length_take]; omega
      obtain ⟨s1, s2⟩ := ins_same hs hh
      rw [atS, if_pos s1]
      show atS l ((t.f4.take (posS t.f3 a) ++ r1 :: t.f4.drop (posS t.f3 a)).getD (posS (t.f3.take (posS t.f3 a) ++ a :: t.f3.drop (posS t.f3 a)) a) dir0) = (x, 0)
      rw [s2, List.getD_eq_getElem?_getD, List.getElem?_append_right (by omega), hlen, Nat.sub_self]
      show atS l r1 = (x, 0)
      exact ih 1 dir0 x r1 Okt_dir0 hr
theorem AtS_same {N M : Nat} {t x r : S26} {p : ByteArray} (hG : GT N t) (h : PutS N M t p x = (r, 0)) : AtS (N + M + (partsS p).length + 1) r p = (x, 0) := by
  obtain ⟨h1, h2, h3, h4, h5⟩ := PutS_inv h
  unfold AtS
  rw [h5, if_neg (show ¬ ((0 : Int) ≠ 0) by simp), h3, if_neg (by simp)]
  exact at_same (partsS p) N t x r (chk_okt N t 1 0 hG (by omega) h1) h4
theorem PutS_GTe {N M : Nat} {t x r : S26} {p : ByteArray} {k : Int} (hG : GT N t) (hX : GT M x) (h : PutS N M t p x = (r, k)) : GT (N + M + (partsS p).length + 1) r := by
  by_cases hk : k = 0
  · subst hk; exact PutS_GT hG hX h
  · have hz : r = z0 := by
      unfold PutS at h
      split at h
      · exact (Prod.mk.inj h).1.symm
      · split at h
        · exact (Prod.mk.inj h).1.symm
        · split at h
          · exact (Prod.mk.inj h).1.symm
          · try simp only at h
            split at h
            · exact (Prod.mk.inj h).1.symm
            · split at h
              · exact (Prod.mk.inj h).1.symm
              · exact absurd (Prod.mk.inj h).2.symm hk
    rw [hz]
    exact GT_z0
set_option maxRecDepth 20000 in
set_option maxHeartbeats 8000000 in
theorem TreePuts_row (N : Nat) (t : S26) (A2 : Option Addr) (c2 : Nat) (A3 : Option Addr) (c3 : Nat) (A4 : Option Addr) (c4 : Nat) (p : ByteArray) (M : Nat) (u : S26) (B2 : Option Addr) (d2 : Nat) (B3 : Option Addr) (d3 : Nat) (B4 : Option Addr) (d4 : Nat) (w : World)
    (ht : TR w t A2 c2 A3 c3 A4 c4) (hG : GT N t) (hp : p.size ≤ 140737488351232) (hu : TR w u B2 d2 B3 d3 B4 d4) (hGu : GT M u) (hg : G0 w) :
    Calls Tryd.prog 6 #[TV t A2 c2 A3 c3 A4 c4, .string p, TV u B2 d2 B3 d3 B4 d4] w fun e w' => e = .returned (.bool true) ∧ Below w.heap.size w w' := by
  have HT := Aside0.mk (And.intro ht (And.intro hu hg))
  have HG := Aside0.mk (And.intro hG hGu)
  clear ht hu hg hG hGu
  have HW := Aside0.mk (AW.enter2 w t u A2 c2 A3 c3 A4 c4 B2 d2 B3 d3 B4 d4)
  go_enter Tryd.func6, Tryd.ntmps6
  go_upto_region 1 with fail
  generalize ((w.alloc (bx t A2 c2 A3 c3 A4 c4)).alloc (bx u B2 d2 B3 d3 B4 d4)) = w3 at *
  obtain ⟨a, ha⟩ : ∃ q, w.heap.size = q := ⟨_, rfl⟩
  rw [ha] at HW ⊢
  have HA := Aside0.mk ha
  clear ha
  obtain ⟨c, hc⟩ : ∃ q, a + 1 = q := ⟨_, rfl⟩
  rw [hc] at HW ⊢
  clear hc
  obtain ⟨x0, x1, x2, x3, x4⟩ := cells5 HW.out.ba
  obtain ⟨b0, b1, b2, b3, b4⟩ := cells5 HW.out.bc
  have hal := below_alloc (Below.refl w3.heap.size w3) (.cells #[.int .i64 t.f0, .bool t.f1, .slice A2 t.f2.length c2, .slice A3 t.f3.length c3, .slice A4 t.f4.length c4, .int .i64 u.f0, .bool u.f1, .slice B2 u.f2.length d2, .slice B3 u.f3.length d3, .slice B4 u.f4.length d4] 26)
  have HR := Aside0.mk (heap_alloc_new w3 (.cells #[.int .i64 t.f0, .bool t.f1, .slice A2 t.f2.length c2, .slice A3 t.f3.length c3, .slice A4 t.f4.length c4, .int .i64 u.f0, .bool u.f1, .slice B2 u.f2.length d2, .slice B3 u.f3.length d3, .slice B4 u.f4.length d4] 26))
  have HW4 := Aside0.mk (HW.out.step hal)
  clear hal HW
  go_wp2_with fail
  clear x0 x1 x2 x3 x4
  clear b0 b1 b2 b3 b4
  generalize w3.alloc (.cells #[.int .i64 t.f0, .bool t.f1, .slice A2 t.f2.length c2, .slice A3 t.f3.length c3, .slice A4 t.f4.length c4, .int .i64 u.f0, .bool u.f1, .slice B2 u.f2.length d2, .slice B3 u.f3.length d3, .slice B4 u.f4.length d4] 26) = w4 at *
  have HW := HW4
  clear HW4
  refine (heavy_any (N + M) [t, u] (some ⟨w3.heap.size, 0, none⟩) 2 w4 (two_C HR.out (HT.out.1.below HW.out.bel) (HT.out.2.1.below HW.out.bel)) (by intro v hv; simp at hv; rcases hv with rfl | rfl; exact GT_mono HG.out.1 (by omega); exact GT_mono HG.out.2 (by omega)) (by simp)).mono ?_
  rintro e w5 ⟨hv, rfl, hb, -⟩
  have HW := Aside0.mk (HW.out.step hb)
  clear hb HR
  cases hv with
  | true =>
    go_wp2_with fail
    exact bodyPost_ret (v := .bool true) (by simp [results, Tryd.results6, go_sem]) rfl ⟨rfl, HA.out ▸ HW.out.bel⟩
  | false =>
    by_cases h6 : p.size ≤ 600
    rotate_left
    · skip
      have h6' : (600 : Int) < (p.size : Int) := by omega
      go_wp2_with fail
      exact bodyPost_ret (v := .bool true) (by simp [results, Tryd.results6, go_sem]) rfl ⟨rfl, HA.out ▸ HW.out.bel⟩
    have h6' : ¬ (600 : Int) < (p.size : Int) := by omega
    obtain ⟨x0, x1, x2, x3, x4⟩ := cells5 HW.out.ba
    go_wp2_with fail
    clear x0 x1 x2 x3 x4
    refine (Clone_any N t A2 c2 A3 c3 A4 c4 w5 (HT.out.1.below HW.out.bel) HG.out.1).mono ?_
    rintro e w6 ⟨C2, e2, C3, e3, C4, e4, rfl, -, hx, hb⟩
    simp only [TV]
    have HW := Aside0.mk (HW.out.step hb)
    have HB := Aside0.mk (BX.nil HW.out.bel)
    have HX := Aside0.mk hx
    clear hb hx
    go_upto_region 4 with fail
    have hal := below_alloc (Below.refl _ w6) (.cells #[.int .i64 t.f0, .bool t.f1, .slice C2 t.f2.length e2, .slice C3 t.f3.length e3, .slice C4 t.f4.length e4] 26)
    have HB := Aside0.mk (HB.out.new HB.out.bel.size #[.int .i64 t.f0, .bool t.f1, .slice C2 t.f2.length e2, .slice C3 t.f3.length e3, .slice C4 t.f4.length e4])
    have HW := Aside0.mk (HW.out.step hal)
    have HX := Aside0.mk (HX.out.below hal)
    clear hal
    obtain ⟨xb, hbb⟩ : ∃ q, w6.heap.size = q := ⟨_, rfl⟩
    rw [hbb] at HB ⊢
    clear hbb
    generalize w6.alloc (.cells #[.int .i64 t.f0, .bool t.f1, .slice C2 t.f2.length e2, .slice C3 t.f3.length e3, .slice C4 t.f4.length e4] 26) = w7 at *
    obtain ⟨x0, x1, x2, x3, x4⟩ := cells5 HW.out.bc
    go_wp2_with fail
    clear x0 x1 x2 x3 x4
    refine (Clone_any M u B2 d2 B3 d3 B4 d4 w7 (HT.out.2.1.below HW.out.bel) HG.out.2).mono ?_
    rintro e w8 ⟨D2, g2, D3, g3, D4, g4, rfl, -, hx, hb⟩
    simp only [TV]
    have HY := Aside0.mk hx
    have HW := Aside0.mk (HW.out.step hb)
    have HB := Aside0.mk (HB.out.step hb)
    have HX := Aside0.mk (HX.out.below hb)
    clear hb
    clear hx
    go_upto_region 5 with fail
    have hal := below_alloc (Below.refl _ w8) (.cells #[.int .i64 u.f0, .bool u.f1, .slice D2 u.f2.length g2, .slice D3 u.f3.length g3, .slice D4 u.f4.length g4] 26)
    have HB := Aside0.mk (HB.out.new HB.out.bel.size #[.int .i64 u.f0, .bool u.f1, .slice D2 u.f2.length g2, .slice D3 u.f3.length g3, .slice D4 u.f4.length g4])
    have HW := Aside0.mk (HW.out.step hal)
    have HX := Aside0.mk (HX.out.below hal)
    have HY := Aside0.mk (HY.out.below hal)
    clear hal
    obtain ⟨yb, hbb⟩ : ∃ q, w8.heap.size = q := ⟨_, rfl⟩
    rw [hbb] at HB ⊢
    clear hbb
    generalize w8.alloc (.cells #[.int .i64 u.f0, .bool u.f1, .slice D2 u.f2.length g2, .slice D3 u.f3.length g3, .slice D4 u.f4.length g4] 26) = wX at *
    obtain ⟨x0, x1, x2, x3, x4⟩ := cells5 HB.out.g1
    obtain ⟨b0, b1, b2, b3, b4⟩ := cells5 HB.out.g0
    go_wp2_with fail
    clear x0 x1 x2 x3 x4
    clear b0 b1 b2 b3 b4
    have HBX := HB
    have HWX := HW
    obtain ⟨⟨r, k⟩, hr⟩ : ∃ q, PutS N M t p u = q := ⟨_, rfl⟩
    have HR := Aside0.mk hr
    clear hr
    obtain ⟨Lv, hLv⟩ : ∃ q, N + M + (partsS p).length + 1 = q := ⟨_, rfl⟩
    have HGR : Aside0 (GT Lv r) := ⟨hLv ▸ PutS_GTe HG.out.1 HG.out.2 HR.out⟩
    have HSAME : Aside0 (k = 0 → AtS Lv r p = (u, 0)) := ⟨fun hk => by subst hk; rw [← hLv]; exact AtS_same HG.out.1 HR.out⟩
    clear hLv
    refine (Put_any N M t u C2 e2 C3 e3 C4 e4 D2 g2 D3 g3 D4 g4 p wX HX.out HY.out HG.out.1 HG.out.2 (HT.out.2.2.below HW.out.bel) (by omega)).mono ?_
    rw [HR.out]
    rintro e w9 ⟨R2, r2, R3, r3, R4, r4, rfl, ho, hb⟩
    simp only [TV]
    have HTR := Aside0.mk ho.TR
    have HSH := Aside0.mk (Sh.of_OT HGR.out ho)
    have HLX := Aside0.mk hb
    obtain ⟨hi, hhi⟩ : ∃ q, w9.heap.size = q := ⟨_, rfl⟩
    rw [hhi] at HSH
    have HHI : Aside0 (hi ≤ w9.heap.size) := ⟨Nat.le_of_eq hhi.symm⟩
    have HW := Aside0.mk (HW.out.step hb)
    have HB := Aside0.mk (HB.out.step hb)
    clear hb
    clear ho hhi
    go_upto_region 6 with fail
    have hal := below_alloc (Below.refl _ w9) (.cells #[.int .i64 r.f0, .bool r.f1, .slice R2 r.f2.length r2, .slice R3 r.f3.length r3, .slice R4 r.f4.length r4] 26)
    have HB := Aside0.mk (HB.out.new HB.out.bel.size #[.int .i64 r.f0, .bool r.f1, .slice R2 r.f2.length r2, .slice R3 r.f3.length r3, .slice R4 r.f4.length r4])
    have HW := Aside0.mk (HW.out.step hal)
    have HTR := Aside0.mk (HTR.out.below hal)
    have HLX := Aside0.mk (below_then HLX.out HLX.out.size hal)
    have HSH := Aside0.mk (HSH.out.ty (Ty.of_below hal))
    have HHI : Aside0 (hi ≤ (w9.alloc (.cells #[.int .i64 r.f0, .bool r.f1, .slice R2 r.f2.length r2, .slice R3 r.f3.length r3, .slice R4 r.f4.length r4] 26)).heap.size) := ⟨Nat.le_trans HHI.out hal.size⟩
    clear hal
    obtain ⟨rb, hbb⟩ : ∃ q, w9.heap.size = q := ⟨_, rfl⟩
    rw [hbb] at HB ⊢
    clear hbb
    generalize w9.alloc (.cells #[.int .i64 r.f0, .bool r.f1, .slice R2 r.f2.length r2, .slice R3 r.f3.length r3, .slice R4 r.f4.length r4] 26) = w10 at *
    obtain ⟨x0, x1, x2, x3, x4⟩ := cells5 HW.out.ba
    obtain ⟨b0, b1, b2, b3, b4⟩ := cells5 HW.out.bc
    go_wp2_with fail
    clear x0 x1 x2 x3 x4
    clear b0 b1 b2 b3 b4
    refine (RPut_any N M t A2 c2 A3 c3 A4 c4 u B2 d2 B3 d3 B4 d4 p w10 (HT.out.1.below HW.out.bel) (HT.out.2.1.below HW.out.bel) HG.out.1 HG.out.2 (by omega)).mono ?_
    rw [HR.out]
    rintro e w11 ⟨S2, s2, S3, s3, S4, s4, rfl, hts, hb⟩
    simp only [TV]
    have HTS := Aside0.mk hts
    have HW := Aside0.mk (HW.out.step hb)
    have HB := Aside0.mk (HB.out.step hb)
    have HTR := Aside0.mk (HTR.out.below hb)
    have HLX := Aside0.mk (below_then HLX.out HLX.out.size hb)
    have HSH := Aside0.mk (HSH.out.ty (Ty.of_below hb))
    have HHI := Aside0.mk (Nat.le_trans HHI.out hb.size)
    clear hb
    clear hts
    go_upto_region 7 with fail
    have hal := below_alloc (Below.refl _ w11) (.cells #[.int .i64 r.f0, .bool r.f1, .slice S2 r.f2.length s2, .slice S3 r.f3.length s3, .slice S4 r.f4.length s4] 26)
    have HB := Aside0.mk (HB.out.new HB.out.bel.size #[.int .i64 r.f0, .bool r.f1, .slice S2 r.f2.length s2, .slice S3 r.f3.length s3, .slice S4 r.f4.length s4])
    have HW := Aside0.mk (HW.out.step hal)
    have HTR := Aside0.mk (HTR.out.below hal)
    have HTS := Aside0.mk (HTS.out.below hal)
    have HLX := Aside0.mk (below_then HLX.out HLX.out.size hal)
    have HSH := Aside0.mk (HSH.out.ty (Ty.of_below hal))
    have HHI : Aside0 (hi ≤ (w11.alloc (.cells #[.int .i64 r.f0, .bool r.f1, .slice S2 r.f2.length s2, .slice S3 r.f3.length s3, .slice S4 r.f4.length s4] 26)).heap.size) := ⟨Nat.le_trans HHI.out hal.size⟩
    clear hal
    obtain ⟨sb, hbb⟩ : ∃ q, w11.heap.size = q := ⟨_, rfl⟩
    rw [hbb] at HB ⊢
    clear hbb
    generalize w11.alloc (.cells #[.int .i64 r.f0, .bool r.f1, .slice S2 r.f2.length s2, .slice S3 r.f3.length s3, .slice S4 r.f4.length s4] 26) = w12 at *
    obtain ⟨x0, x1, x2, x3, x4⟩ := cells5 HB.out.g1
    obtain ⟨b0, b1, b2, b3, b4⟩ := cells5 HB.out.g0
    go_wp2_with fail
    clear x0 x1 x2 x3 x4
    clear b0 b1 b2 b3 b4
    refine (Equal_any Lv Lv r r R2 r2 R3 r3 R4 r4 S2 s2 S3 s3 S4 s4 w12 HTR.out HTS.out HGR.out HGR.out).mono ?_
    rintro e w13 ⟨rfl, hb⟩
    have HW := Aside0.mk (HW.out.step hb)
    have HB := Aside0.mk (HB.out.step hb)
    have HTR := Aside0.mk (HTR.out.below hb)
    have HLX := Aside0.mk (below_then HLX.out HLX.out.size hb)
    have HSH := Aside0.mk (HSH.out.ty (Ty.of_below hb))
    have HHI := Aside0.mk (Nat.le_trans HHI.out hb.size)
    clear hb
    rw [eqT_true rfl]
    by_cases hz : k = 0
    rotate_left
    · skip
      have hkb : (k == 0) = false := by simpa using hz
      go_upto_region 13 with fail
      obtain ⟨x0, x1, x2, x3, x4⟩ := cells5 HB.out.g1
      go_wp2_with fail
      clear x0 x1 x2 x3 x4
      refine (spoilt_any wX.heap.size hi Lv _ w13 HSH.out HHI.out).mono ?_
      rintro e w20 ⟨rfl, hty⟩
      have HLX := Aside0.mk (HLX.out.trans (hty.below HLX.out.size))
      have HB := Aside0.mk (HBX.out.step HLX.out)
      have HW := Aside0.mk (HWX.out.step HLX.out)
      have HX := Aside0.mk (HX.out.below HLX.out)
      have HY := Aside0.mk (HY.out.below HLX.out)
      clear hty HSH HHI HLX HBX HWX HTR
      obtain ⟨x0, x1, x2, x3, x4⟩ := cells5 HB.out.g1
      obtain ⟨b0, b1, b2, b3, b4⟩ := cells5 HW.out.ba
      go_wp2_with fail
      clear x0 x1 x2 x3 x4
      clear b0 b1 b2 b3 b4
      refine (Equal_any N N t t C2 e2 C3 e3 C4 e4 A2 c2 A3 c3 A4 c4 w20 HX.out (HT.out.1.below HW.out.bel) HG.out.1 HG.out.1).mono ?_
      rintro e w21 ⟨rfl, hb⟩
      have HW := Aside0.mk (HW.out.step hb)
      have HB := Aside0.mk (HB.out.step hb)
      have HY := Aside0.mk (HY.out.below hb)
      clear hb
      rw [eqT_true rfl]
      obtain ⟨x0, x1, x2, x3, x4⟩ := cells5 HB.out.g0
      obtain ⟨b0, b1, b2, b3, b4⟩ := cells5 HW.out.bc
      go_wp2_with fail
      clear x0 x1 x2 x3 x4
      clear b0 b1 b2 b3 b4
      refine (Equal_any M M u u D2 g2 D3 g3 D4 g4 B2 d2 B3 d3 B4 d4 w21 HY.out (HT.out.2.1.below HW.out.bel) HG.out.2 HG.out.2).mono ?_
      rintro e w22 ⟨rfl, hb⟩
      have HW := Aside0.mk (HW.out.step hb)
      have HB := Aside0.mk (HB.out.step hb)
      clear hb
      rw [eqT_true rfl]
      go_wp2_with fail
      refine (known_any _ (HT.out.2.2.below (HA.out ▸ HW.out.bel))).mono ?_
      rintro e w23 ⟨rfl, hb⟩
      have HW := Aside0.mk (HW.out.step hb)
      have HB := Aside0.mk (HB.out.step hb)
      clear hb
      go_wp2_with fail
      exact bodyPost_ret (v := .bool true) (by simp [results, Tryd.results6, go_sem]) rfl ⟨rfl, HA.out ▸ HW.out.bel⟩
    subst hz
    have HS0 := Aside0.mk (HSAME.out rfl)
    obtain ⟨x0, x1, x2, x3, x4⟩ := cells5 HB.out.g1
    go_wp2_with fail
    clear x0 x1 x2 x3 x4
    refine (At_any Lv r R2 r2 R3 r3 R4 r4 p w13 HTR.out HGR.out (HT.out.2.2.below HW.out.bel) (by omega)).mono ?_
    rw [HS0.out]
    rintro e w14 ⟨Q2, q2, Q3, q3, Q4, q4, rfl, ho, hb⟩
    simp only [TV]
    have HTQ := Aside0.mk ho.TR
    have HW := Aside0.mk (HW.out.step hb)
    have HB := Aside0.mk (HB.out.step hb)
    have HTR := Aside0.mk (HTR.out.below hb)
    have HLX := Aside0.mk (below_then HLX.out HLX.out.size hb)
    have HSH := Aside0.mk (HSH.out.ty (Ty.of_below hb))
    have HHI := Aside0.mk (Nat.le_trans HHI.out hb.size)
    clear hb
    clear ho
    go_upto_region 11 with fail
    have hal := below_alloc (Below.refl _ w14) (.cells #[.int .i64 u.f0, .bool u.f1, .slice Q2 u.f2.length q2, .slice Q3 u.f3.length q3, .slice Q4 u.f4.length q4] 26)
    have HB := Aside0.mk (HB.out.new HB.out.bel.size #[.int .i64 u.f0, .bool u.f1, .slice Q2 u.f2.length q2, .slice Q3 u.f3.length q3, .slice Q4 u.f4.length q4])
    have HW := Aside0.mk (HW.out.step hal)
    have HTR := Aside0.mk (HTR.out.below hal)
    have HTQ := Aside0.mk (HTQ.out.below hal)
    have HLX := Aside0.mk (below_then HLX.out HLX.out.size hal)
    have HSH := Aside0.mk (HSH.out.ty (Ty.of_below hal))
    have HHI : Aside0 (hi ≤ (w14.alloc (.cells #[.int .i64 u.f0, .bool u.f1, .slice Q2 u.f2.length q2, .slice Q3 u.f3.length q3, .slice Q4 u.f4.length q4] 26)).heap.size) := ⟨Nat.le_trans HHI.out hal.size⟩
    clear hal
    obtain ⟨qb, hbb⟩ : ∃ q, w14.heap.size = q := ⟨_, rfl⟩
    rw [hbb] at HB ⊢
    clear hbb
    generalize w14.alloc (.cells #[.int .i64 u.f0, .bool u.f1, .slice Q2 u.f2.length q2, .slice Q3 u.f3.length q3, .slice Q4 u.f4.length q4] 26) = w15 at *
    obtain ⟨x0, x1, x2, x3, x4⟩ := cells5 HB.out.g0
    obtain ⟨b0, b1, b2, b3, b4⟩ := cells5 HW.out.bc
    go_wp2_with fail
    clear x0 x1 x2 x3 x4
    clear b0 b1 b2 b3 b4
    refine (Equal_any M M u u Q2 q2 Q3 q3 Q4 q4 B2 d2 B3 d3 B4 d4 w15 HTQ.out (HT.out.2.1.below HW.out.bel) HG.out.2 HG.out.2).mono ?_
    rintro e w16 ⟨rfl, hb⟩
    have HW := Aside0.mk (HW.out.step hb)
    have HB := Aside0.mk (HB.out.step hb)
    have HTR := Aside0.mk (HTR.out.below hb)
    have HLX := Aside0.mk (below_then HLX.out HLX.out.size hb)
    have HSH := Aside0.mk (HSH.out.ty (Ty.of_below hb))
    have HHI := Aside0.mk (Nat.le_trans HHI.out hb.size)
    clear hb
    rw [eqT_true rfl]
    go_upto_region 13 with fail
    obtain ⟨x0, x1, x2, x3, x4⟩ := cells5 HB.out.g2
    go_wp2_with fail
    clear x0 x1 x2 x3 x4
    refine (spoilt_any wX.heap.size hi Lv _ w16 HSH.out HHI.out).mono ?_
    rintro e w20 ⟨rfl, hty⟩
    have HLX := Aside0.mk (HLX.out.trans (hty.below HLX.out.size))
    have HB := Aside0.mk (HBX.out.step HLX.out)
    have HW := Aside0.mk (HWX.out.step HLX.out)
    have HX := Aside0.mk (HX.out.below HLX.out)
    have HY := Aside0.mk (HY.out.below HLX.out)
    clear hty HSH HHI HLX HBX HWX HTR
    obtain ⟨x0, x1, x2, x3, x4⟩ := cells5 HB.out.g1
    obtain ⟨b0, b1, b2, b3, b4⟩ := cells5 HW.out.ba
    go_wp2_with fail
    clear x0 x1 x2 x3 x4
    clear b0 b1 b2 b3 b4
    refine (Equal_any N N t t C2 e2 C3 e3 C4 e4 A2 c2 A3 c3 A4 c4 w20 HX.out (HT.out.1.below HW.out.bel) HG.out.1 HG.out.1).mono ?_
    rintro e w21 ⟨rfl, hb⟩
    have HW := Aside0.mk (HW.out.step hb)
    have HB := Aside0.mk (HB.out.step hb)
    have HY := Aside0.mk (HY.out.below hb)
    clear hb
    rw [eqT_true rfl]
    obtain ⟨x0, x1, x2, x3, x4⟩ := cells5 HB.out.g0
    obtain ⟨b0, b1, b2, b3, b4⟩ := cells5 HW.out.bc
    go_wp2_with fail
    clear x0 x1 x2 x3 x4
    clear b0 b1 b2 b3 b4
    refine (Equal_any M M u u D2 g2 D3 g3 D4 g4 B2 d2 B3 d3 B4 d4 w21 HY.out (HT.out.2.1.below HW.out.bel) HG.out.2 HG.out.2).mono ?_
    rintro e w22 ⟨rfl, hb⟩
    have HW := Aside0.mk (HW.out.step hb)
    have HB := Aside0.mk (HB.out.step hb)
    clear hb
    rw [eqT_true rfl]
    go_wp2_with fail
    refine (known_any _ (HT.out.2.2.below (HA.out ▸ HW.out.bel))).mono ?_
    rintro e w23 ⟨rfl, hb⟩
    have HW := Aside0.mk (HW.out.step hb)
    have HB := Aside0.mk (HB.out.step hb)
    clear hb
    go_wp2_with fail
    exact bodyPost_ret (v := .bool true) (by simp [results, Tryd.results6, go_sem]) rfl ⟨rfl, HA.out ▸ HW.out.bel⟩
end Go.Proofs.YtfnofjcdaghniaaDoor.Tree
