/- TreePlaces, walked. Own work; printed by gen_pl.py. -/
import Derived.Test.YtfnofjcdaghniaaDoorRdJ
import Derived.Test.YtfnofjcdaghniaaDoorRdJ
import Derived.Test.YtfnofjcdaghniaaDoorRdJ
namespace Go.Proofs.YtfnofjcdaghniaaDoor.Tree
set_option linter.unusedVariables false
set_option linter.unusedSimpArgs false
open Go.RowKit Go.Proofs.YtfnofjcdaghniaaDoor.PL Go.Proofs.YtfnofjcdaghniaaDoor.Mt Go.Proofs.YtfnofjcdaghniaaDoorW.PrintWords Go.Proofs.YtfnofjcdaghniaaDoorW.PrintLast Go.Proofs.YtfnofjcdaghniaaDoorW.PrintMore
set_option maxRecDepth 20000 in
set_option maxHeartbeats 8000000 in
theorem TreePlaces_row (N : Nat) (t : S26) (A2 : Option Addr) (c2 : Nat) (A3 : Option Addr) (c3 : Nat) (A4 : Option Addr) (c4 : Nat) (p : ByteArray) (w : World)
    (ht : TR w t A2 c2 A3 c3 A4 c4) (hG : GT N t) (hp : p.size ≤ 140737488351232) (hg : G0 w) :
    Calls Tryd.prog 5 #[TV t A2 c2 A3 c3 A4 c4, .string p] w fun e w' => e = .returned (.bool true) ∧ Below w.heap.size w w' := by
  have HT := Aside0.mk (And.intro ht hg)
  have HG := Aside0.mk hG
  clear ht hg hG
  have HB := Aside0.mk ((BX.nil (Below.refl w.heap.size w)).new (Nat.le_refl _) #[.int .i64 t.f0, .bool t.f1, .slice A2 t.f2.length c2, .slice A3 t.f3.length c3, .slice A4 t.f4.length c4])
  go_enter Tryd.func5, Tryd.ntmps5
  go_upto_region 1 with fail
  generalize (w.alloc (.cells #[.int .i64 t.f0, .bool t.f1, .slice A2 t.f2.length c2, .slice A3 t.f3.length c3, .slice A4 t.f4.length c4] 26)) = w3 at *
  obtain ⟨a, ha⟩ : ∃ q, w.heap.size = q := ⟨_, rfl⟩
  rw [ha] at HB ⊢
  have HA := Aside0.mk ha
  clear ha
  obtain ⟨x0, x1, x2, x3, x4⟩ := cells5 HB.out.g0
  have hal := below_alloc (Below.refl w3.heap.size w3) (.cells #[.int .i64 t.f0, .bool t.f1, .slice A2 t.f2.length c2, .slice A3 t.f3.length c3, .slice A4 t.f4.length c4] 26)
  have HR := Aside0.mk (heap_alloc_new w3 (.cells #[.int .i64 t.f0, .bool t.f1, .slice A2 t.f2.length c2, .slice A3 t.f3.length c3, .slice A4 t.f4.length c4] 26))
  have HB4 := Aside0.mk (HB.out.step hal)
  clear hal HB
  go_wp2_with fail
  clear x0 x1 x2 x3 x4
  generalize w3.alloc (.cells #[.int .i64 t.f0, .bool t.f1, .slice A2 t.f2.length c2, .slice A3 t.f3.length c3, .slice A4 t.f4.length c4] 26) = w4 at *
  have HB := HB4
  clear HB4
  refine (heavy_any N [t] (some ⟨w3.heap.size, 0, none⟩) 1 w4 (one_C HR.out (HT.out.1.below HB.out.bel)) (by intro v hv; simp at hv; subst hv; exact HG.out) (by simp)).mono ?_
  rintro e w5 ⟨hv, rfl, hb, -⟩
  have HB := Aside0.mk (HB.out.step hb)
  clear hb HR
  cases hv with
  | true =>
    go_wp2_with fail
    exact bodyPost_ret (v := .bool true) (by simp [results, Tryd.results5, go_sem]) rfl ⟨rfl, HA.out ▸ HB.out.bel⟩
  | false =>
    by_cases h6 : p.size ≤ 600
    rotate_left
    · skip
      have h6' : (600 : Int) < (p.size : Int) := by omega
      go_wp2_with fail
      exact bodyPost_ret (v := .bool true) (by simp [results, Tryd.results5, go_sem]) rfl ⟨rfl, HA.out ▸ HB.out.bel⟩
    have h6' : ¬ (600 : Int) < (p.size : Int) := by omega
    obtain ⟨x0, x1, x2, x3, x4⟩ := cells5 HB.out.g0
    go_wp2_with fail
    clear x0 x1 x2 x3 x4
    refine (Clone_any N t A2 c2 A3 c3 A4 c4 w5 (HT.out.1.below HB.out.bel) HG.out).mono ?_
    rintro e w6 ⟨B2, d2, B3, d3, B4, d4, rfl, -, hx, hb⟩
    simp only [TV]
    have HB := Aside0.mk (HB.out.step hb)
    have HX := Aside0.mk hx
    clear hb hx
    go_upto_region 4 with fail
    have hal := below_alloc (Below.refl _ w6) (.cells #[.int .i64 t.f0, .bool t.f1, .slice B2 t.f2.length d2, .slice B3 t.f3.length d3, .slice B4 t.f4.length d4] 26)
    have HB := Aside0.mk (HB.out.new HB.out.bel.size #[.int .i64 t.f0, .bool t.f1, .slice B2 t.f2.length d2, .slice B3 t.f3.length d3, .slice B4 t.f4.length d4])
    have HX := Aside0.mk (HX.out.below hal)
    clear hal
    obtain ⟨xb, hbb⟩ : ∃ q, w6.heap.size = q := ⟨_, rfl⟩
    rw [hbb] at HB ⊢
    clear hbb
    generalize w6.alloc (.cells #[.int .i64 t.f0, .bool t.f1, .slice B2 t.f2.length d2, .slice B3 t.f3.length d3, .slice B4 t.f4.length d4] 26) = wX at *
    obtain ⟨x0, x1, x2, x3, x4⟩ := cells5 HB.out.g0
    go_wp2_with fail
    clear x0 x1 x2 x3 x4
    have HBX := HB
    have HGY := Aside0.mk (AtS_GT (p := p) HG.out)
    obtain ⟨⟨y, f⟩, hy⟩ : ∃ q, AtS N t p = q := ⟨_, rfl⟩
    rw [hy] at HGY
    obtain ⟨L, hGY⟩ := HGY.out
    have HGY := Aside0.mk hGY
    have HY := Aside0.mk hy
    clear hGY hy
    refine (At_any N t B2 d2 B3 d3 B4 d4 p wX HX.out HG.out (HT.out.2.below HB.out.bel) (by omega)).mono ?_
    rw [HY.out]
    rintro e w8 ⟨C2, e2, C3, e3, C4, e4, rfl, ho, hb⟩
    simp only [TV]
    have HB := Aside0.mk (HB.out.step hb)
    have HTY := Aside0.mk ho.TR
    have HSH := Aside0.mk (Sh.of_OT HGY.out ho)
    have HLX := Aside0.mk hb
    obtain ⟨hi, hhi⟩ : ∃ q, w8.heap.size = q := ⟨_, rfl⟩
    rw [hhi] at HSH
    have HHI : Aside0 (hi ≤ w8.heap.size) := ⟨Nat.le_of_eq hhi.symm⟩
    clear hb ho hhi
    have HHI : Aside0 (hi ≤ (w8.alloc (.cells #[.int .i64 y.f0, .bool y.f1, .slice C2 y.f2.length e2, .slice C3 y.f3.length e3, .slice C4 y.f4.length e4] 26)).heap.size) := ⟨Nat.le_trans HHI.out (below_alloc (Below.refl _ w8) _).size⟩
    go_upto_region 5 with fail
    have hal := below_alloc (Below.refl _ w8) (.cells #[.int .i64 y.f0, .bool y.f1, .slice C2 y.f2.length e2, .slice C3 y.f3.length e3, .slice C4 y.f4.length e4] 26)
    have HB := Aside0.mk (HB.out.new HB.out.bel.size #[.int .i64 y.f0, .bool y.f1, .slice C2 y.f2.length e2, .slice C3 y.f3.length e3, .slice C4 y.f4.length e4])
    have HTY := Aside0.mk (HTY.out.below hal)
    have HLX := Aside0.mk (below_then HLX.out HLX.out.size hal)
    have HSH := Aside0.mk (HSH.out.ty (Ty.of_below hal))
    clear hal
    obtain ⟨yb, hbb⟩ : ∃ q, w8.heap.size = q := ⟨_, rfl⟩
    rw [hbb] at HB ⊢
    clear hbb
    generalize w8.alloc (.cells #[.int .i64 y.f0, .bool y.f1, .slice C2 y.f2.length e2, .slice C3 y.f3.length e3, .slice C4 y.f4.length e4] 26) = w9 at *
    obtain ⟨x0, x1, x2, x3, x4⟩ := cells5 HB.out.g2
    go_wp2_with fail
    clear x0 x1 x2 x3 x4
    refine (RAt_any N t A2 c2 A3 c3 A4 c4 p w9 (HT.out.1.below HB.out.bel) HG.out (HT.out.2.below HB.out.bel) (by omega)).mono ?_
    rw [HY.out]
    rintro e w10 ⟨D2, g2, D3, g3, D4, g4, rfl, ho, hb⟩
    simp only [TV]
    have HB := Aside0.mk (HB.out.step hb)
    have HTY := Aside0.mk (HTY.out.below hb)
    have HTZ := Aside0.mk ho.TR
    have HLX := Aside0.mk (below_then HLX.out HLX.out.size hb)
    have HSH := Aside0.mk (HSH.out.ty (Ty.of_below hb))
    have HHI : Aside0 (hi ≤ w10.heap.size) := ⟨Nat.le_trans HHI.out hb.size⟩
    clear hb ho
    have HHI : Aside0 (hi ≤ (w10.alloc (.cells #[.int .i64 y.f0, .bool y.f1, .slice D2 y.f2.length g2, .slice D3 y.f3.length g3, .slice D4 y.f4.length g4] 26)).heap.size) := ⟨Nat.le_trans HHI.out (below_alloc (Below.refl _ w10) _).size⟩
    go_upto_region 6 with fail
    have hal := below_alloc (Below.refl _ w10) (.cells #[.int .i64 y.f0, .bool y.f1, .slice D2 y.f2.length g2, .slice D3 y.f3.length g3, .slice D4 y.f4.length g4] 26)
    have HB := Aside0.mk (HB.out.new HB.out.bel.size #[.int .i64 y.f0, .bool y.f1, .slice D2 y.f2.length g2, .slice D3 y.f3.length g3, .slice D4 y.f4.length g4])
    have HTY := Aside0.mk (HTY.out.below hal)
    have HTZ := Aside0.mk (HTZ.out.below hal)
    have HLX := Aside0.mk (below_then HLX.out HLX.out.size hal)
    have HSH := Aside0.mk (HSH.out.ty (Ty.of_below hal))
    clear hal
    obtain ⟨zb, hbb⟩ : ∃ q, w10.heap.size = q := ⟨_, rfl⟩
    rw [hbb] at HB ⊢
    clear hbb
    generalize w10.alloc (.cells #[.int .i64 y.f0, .bool y.f1, .slice D2 y.f2.length g2, .slice D3 y.f3.length g3, .slice D4 y.f4.length g4] 26) = w11 at *
    obtain ⟨x0, x1, x2, x3, x4⟩ := cells5 HB.out.g1
    obtain ⟨b0, b1, b2, b3, b4⟩ := cells5 HB.out.g0
    go_wp2_with fail
    clear x0 x1 x2 x3 x4
    clear b0 b1 b2 b3 b4
    refine (Equal_any L L y y C2 e2 C3 e3 C4 e4 D2 g2 D3 g3 D4 g4 w11 HTY.out HTZ.out HGY.out HGY.out).mono ?_
    rintro e w12 ⟨rfl, hb⟩
    have HB := Aside0.mk (HB.out.step hb)
    have HLX := Aside0.mk (below_then HLX.out HLX.out.size hb)
    have HSH := Aside0.mk (HSH.out.ty (Ty.of_below hb))
    have HHI : Aside0 (hi ≤ w12.heap.size) := ⟨Nat.le_trans HHI.out hb.size⟩
    clear hb HTY HTZ
    rw [eqT_true rfl]
    obtain ⟨x0, x1, x2, x3, x4⟩ := cells5 HB.out.g1
    go_wp2_with fail
    clear x0 x1 x2 x3 x4
    refine (spoilt_any wX.heap.size hi L _ w12 HSH.out HHI.out).mono ?_
    rintro e w13 ⟨rfl, hty⟩
    have HLX := Aside0.mk (HLX.out.trans (hty.below HLX.out.size))
    have HB := Aside0.mk (HBX.out.step HLX.out)
    have HX := Aside0.mk (HX.out.below HLX.out)
    clear hty HSH HHI HLX HBX
    obtain ⟨x0, x1, x2, x3, x4⟩ := cells5 HB.out.g1
    obtain ⟨b0, b1, b2, b3, b4⟩ := cells5 HB.out.g0
    go_wp2_with fail
    clear x0 x1 x2 x3 x4
    clear b0 b1 b2 b3 b4
    refine (Equal_any N N t t B2 d2 B3 d3 B4 d4 A2 c2 A3 c3 A4 c4 w13 HX.out (HT.out.1.below HB.out.bel) HG.out HG.out).mono ?_
    rintro e w14 ⟨rfl, hb⟩
    have HB := Aside0.mk (HB.out.step hb)
    clear hb
    rw [eqT_true rfl]
    go_wp2_with fail
    refine (known_any _ (HT.out.2.below (HA.out ▸ HB.out.bel))).mono ?_
    rintro e w15 ⟨rfl, hb⟩
    have HB := Aside0.mk (HB.out.step hb)
    clear hb
    go_wp2_with fail
    exact bodyPost_ret (v := .bool true) (by simp [results, Tryd.results5, go_sem]) rfl ⟨rfl, HA.out ▸ HB.out.bel⟩
end Go.Proofs.YtfnofjcdaghniaaDoor.Tree
