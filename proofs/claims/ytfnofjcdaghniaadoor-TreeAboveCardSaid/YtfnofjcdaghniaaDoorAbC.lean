/- TreeAbove, walked. Own work; printed by gen_ab.py. -/
import Derived.Test.YtfnofjcdaghniaaDoorRbJ
import Derived.Test.YtfnofjcdaghniaaDoorRbJ
namespace Go.Proofs.YtfnofjcdaghniaaDoor.Tree
set_option linter.unusedVariables false
set_option linter.unusedSimpArgs false
open Go.RowKit Go.Proofs.YtfnofjcdaghniaaDoor.PL Go.Proofs.YtfnofjcdaghniaaDoor.Mt Go.Proofs.YtfnofjcdaghniaaDoorW.PrintWords Go.Proofs.YtfnofjcdaghniaaDoorW.PrintLast Go.Proofs.YtfnofjcdaghniaaDoorW.PrintMore
theorem BX.drop {w wr : World} {x : Nat × Array Value} {L : List (Nat × Array Value)} (h : BX w wr (x :: L)) : BX w wr L := ⟨h.bel, fun y hy => h.is y (List.mem_cons_of_mem _ hy)⟩
theorem BX.set0 {w wr : World} {b d : Nat} {a0 b0 c0 d0 e0 : Value} {cs : Array Value} (h : BX w wr [(b, #[a0, b0, c0, d0, e0]), (d, cs)]) (hne : d ≠ b) (x0 x1 x2 x3 x4 : Value) :
    BX w (((((wr.setCell ⟨b, 0, none⟩ x0).setCell ⟨b, 1, none⟩ x1).setCell ⟨b, 2, none⟩ x2).setCell ⟨b, 3, none⟩ x3).setCell ⟨b, 4, none⟩ x4) [(b, #[x0, x1, x2, x3, x4]), (d, cs)] := by
  refine ⟨box_below h.bel (h.is _ (List.mem_cons_self ..)).1 _ _ _ _ _, fun x hx => ?_⟩
  rcases List.mem_cons.1 hx with rfl | hx
  · exact ⟨(h.is _ (List.mem_cons_self ..)).1, box_same h.g0 _ _ _ _ _⟩
  · obtain rfl := List.mem_singleton.1 hx
    exact ⟨(h.is (d, cs) (by simp)).1, (box_far hne _ _ _ _ _).trans h.g1⟩
theorem CountS_pos {N : Nat} {t : S26} (h : GT N t) (hc : (chk N t 1 0).1 = 0) : 1 ≤ (CountS N t).1 := by
  obtain ⟨M, rfl⟩ := GT_pos h
  unfold CountS
  rw [if_neg (by simpa using hc)]
  show 1 ≤ cntN (M + 1) t
  rw [cntN]
  omega
set_option maxRecDepth 20000 in
set_option maxHeartbeats 8000000 in
theorem TreeAbove_row (N : Nat) (t : S26) (A2 : Option Addr) (c2 : Nat) (A3 : Option Addr) (c3 : Nat) (A4 : Option Addr) (c4 : Nat) (p : ByteArray) (M : Nat) (u : S26) (B2 : Option Addr) (d2 : Nat) (B3 : Option Addr) (d3 : Nat) (B4 : Option Addr) (d4 : Nat) (w : World)
    (ht : TR w t A2 c2 A3 c3 A4 c4) (hG : GT N t) (hp : p.size ≤ 140737488351232) (hu : TR w u B2 d2 B3 d3 B4 d4) (hGu : GT M u) (hg : G0 w) :
    Calls Tryd.prog 8 #[TV t A2 c2 A3 c3 A4 c4, .string p, TV u B2 d2 B3 d3 B4 d4] w fun e w' => e = .returned (.bool true) ∧ Below w.heap.size w w' := by
  have HT := Aside0.mk (And.intro ht (And.intro hu hg))
  have HG := Aside0.mk (And.intro hG hGu)
  clear ht hu hg hG hGu
  have HW := Aside0.mk (AW.enter2 w t u A2 c2 A3 c3 A4 c4 B2 d2 B3 d3 B4 d4)
  go_enter Tryd.func8, Tryd.ntmps8
  go_upto_region 1 with fail
  generalize ((w.alloc (bx t A2 c2 A3 c3 A4 c4)).alloc (bx u B2 d2 B3 d3 B4 d4)) = w3 at *
  obtain ⟨a, ha⟩ : ∃ q, w.heap.size = q := ⟨_, rfl⟩
  rw [ha] at HW ⊢
  have HA := Aside0.mk ha
  clear ha
  obtain ⟨c, hc⟩ : ∃ q, a + 1 = q := ⟨_, rfl⟩
  rw [hc] at HW ⊢
  clear hc
  obtain ⟨x0, x1, x2, x3, x4⟩ := cells5 HW.out.ba
  obtain ⟨b0, b1, b2, b3, b4⟩ := cells5 HW.out.bc
  have hal := below_alloc (Below.refl w3.heap.size w3) (.cells #[.int .i64 t.f0, .bool t.f1, .slice A2 t.f2.length c2, .slice A3 t.f3.length c3, .slice A4 t.f4.length c4, .int .i64 u.f0, .bool u.f1, .slice B2 u.f2.length d2, .slice B3 u.f3.length d3, .slice B4 u.f4.length d4] 26)
  have HR := Aside0.mk (heap_alloc_new w3 (.cells #[.int .i64 t.f0, .bool t.f1, .slice A2 t.f2.length c2, .slice A3 t.f3.length c3, .slice A4 t.f4.length c4, .int .i64 u.f0, .bool u.f1, .slice B2 u.f2.length d2, .slice B3 u.f3.length d3, .slice B4 u.f4.length d4] 26))
  have HW4 := Aside0.mk (HW.out.step hal)
  clear hal HW
  go_wp2_with fail
  clear x0 x1 x2 x3 x4
  clear b0 b1 b2 b3 b4
  generalize w3.alloc (.cells #[.int .i64 t.f0, .bool t.f1, .slice A2 t.f2.length c2, .slice A3 t.f3.length c3, .slice A4 t.f4.length c4, .int .i64 u.f0, .bool u.f1, .slice B2 u.f2.length d2, .slice B3 u.f3.length d3, .slice B4 u.f4.length d4] 26) = w4 at *
  have HW := HW4
  clear HW4
  refine (heavy_any (N + M) [t, u] (some ⟨w3.heap.size, 0, none⟩) 2 w4 (two_C HR.out (HT.out.1.below HW.out.bel) (HT.out.2.1.below HW.out.bel)) (by intro v hv; simp at hv; rcases hv with rfl | rfl; exact GT_mono HG.out.1 (by omega); exact GT_mono HG.out.2 (by omega)) (by simp)).mono ?_
  rintro e w5 ⟨hv, rfl, hb, -⟩
  have HW := Aside0.mk (HW.out.step hb)
  clear hb HR
  cases hv with
  | true =>
    go_wp2_with fail
    exact bodyPost_ret (v := .bool true) (by simp [results, Tryd.results8, go_sem]) rfl ⟨rfl, HA.out ▸ HW.out.bel⟩
  | false =>
    by_cases h6 : p.size ≤ 600
    rotate_left
    · skip
      have h6' : (600 : Int) < (p.size : Int) := by omega
      go_wp2_with fail
      exact bodyPost_ret (v := .bool true) (by simp [results, Tryd.results8, go_sem]) rfl ⟨rfl, HA.out ▸ HW.out.bel⟩
    have h6' : ¬ (600 : Int) < (p.size : Int) := by omega
    obtain ⟨x0, x1, x2, x3, x4⟩ := cells5 HW.out.ba
    obtain ⟨b0, b1, b2, b3, b4⟩ := cells5 HW.out.bc
    go_wp2_with fail
    clear x0 x1 x2 x3 x4
    clear b0 b1 b2 b3 b4
    refine (Put_any N M t u A2 c2 A3 c3 A4 c4 B2 d2 B3 d3 B4 d4 p w5 (HT.out.1.below HW.out.bel) (HT.out.2.1.below HW.out.bel) HG.out.1 HG.out.2 (HT.out.2.2.below HW.out.bel) (by omega)).mono ?_
    obtain ⟨⟨r, k⟩, hr⟩ : ∃ q, PutS N M t p u = q := ⟨_, rfl⟩
    rw [hr]
    rintro e w9 ⟨G2, g2, G3, g3, G4, g4, rfl, ho, hb⟩
    simp only [TV]
    have HR := Aside0.mk hr
    have HW := Aside0.mk (HW.out.step hb)
    have HB := Aside0.mk (BX.nil HW.out.bel)
    have HTR := Aside0.mk ho.TR
    clear hb ho hr
    go_upto_region 4 with fail
    have hal := below_alloc (Below.refl _ w9) (.cells #[.int .i64 r.f0, .bool r.f1, .slice G2 r.f2.length g2, .slice G3 r.f3.length g3, .slice G4 r.f4.length g4] 26)
    have HB := Aside0.mk (HB.out.new HB.out.bel.size #[.int .i64 r.f0, .bool r.f1, .slice G2 r.f2.length g2, .slice G3 r.f3.length g3, .slice G4 r.f4.length g4])
    have HTR := Aside0.mk (HTR.out.below hal)
    clear hal
    obtain ⟨rb, hbb⟩ : ∃ q, w9.heap.size = q := ⟨_, rfl⟩
    rw [hbb] at HB ⊢
    clear hbb
    generalize w9.alloc (.cells #[.int .i64 r.f0, .bool r.f1, .slice G2 r.f2.length g2, .slice G3 r.f3.length g3, .slice G4 r.f4.length g4] 26) = w10 at *
    by_cases hz : k = 0
    rotate_left
    · skip
      have hkb : (k != 0) = true := by simpa using hz
      go_wp2_with fail
      refine (known_any _ (HT.out.2.2.below (HA.out ▸ HB.out.bel))).mono ?_
      rintro e w9 ⟨rfl, hb⟩
      have HZ := Aside0.mk (HB.out.step hb)
      clear hb
      go_wp2_with fail
      exact bodyPost_ret (v := .bool true) (by simp [results, Tryd.results8, go_sem]) rfl ⟨rfl, HA.out ▸ HZ.out.bel⟩
    subst hz
    obtain ⟨Lv, hLv⟩ : ∃ q, N + M + (partsS p).length + 1 = q := ⟨_, rfl⟩
    have HGR : Aside0 (GT Lv r) := ⟨hLv ▸ PutS_GT HG.out.1 HG.out.2 HR.out⟩
    have HAB : Aside0 (∀ j, p.data.toList[j]? = some 47 → ∃ y, AtS Lv r (p.extract 0 j) = (y, 0) ∧ y.f0 = 2) := ⟨fun j hj => hLv ▸ AtS_above HG.out.1 HR.out hj⟩
    have HCK : Aside0 ((chk Lv r 1 0).1 = 0) := ⟨hLv ▸ (PutS_inv HR.out).2.2.2.2⟩
    clear hLv HW
    go_wp2_with fail
    go_loopw [9] (fun v wr => ∃ i : Nat, v = .int .i64 (i : Int) ∧ i ≤ p.size ∧ Aside0 (BX w wr [(rb, #[.int .i64 r.f0, .bool r.f1, .slice G2 r.f2.length g2, .slice G3 r.f3.length g3, .slice G4 r.f4.length g4])]) ∧ Aside0 (Below w10.heap.size w10 wr)) (fun v _ => p.size - (intOf v).toNat)
    case atStart => exact ⟨0, rfl, Nat.zero_le _, HB, ⟨Below.refl _ _⟩⟩
    case round =>
      clear HB
      obtain ⟨i, rfl, hi, HB, HL⟩ := hrel
      by_cases hlt : i < p.size
      · skip
        have hlt' : (i : Int) < (p.size : Int) := by omega
        cases hq : ((p[i].toNat : Int) != 47) with
        | true =>
          go_wp2_with fail
          exact ⟨⟨i + 1, by go_num, by omega, HB, HL⟩, by simp [intOf]; omega⟩
        | false =>
          have hj : p.data.toList[i]? = some 47 := by
            have h1 : (p[i].toNat : Int) = 47 := by simpa using hq
            have h2 : p[i] = 47 := UInt8.toNat_inj.1 (by rw [show (47 : UInt8).toNat = 47 from rfl]; omega)
            rw [Array.getElem?_toList, Array.getElem?_eq_getElem hlt]
            exact congrArg some h2
          obtain ⟨y, hy, hy2⟩ := HAB.out i hj
          have HY := Aside0.mk hy
          have HY2 := Aside0.mk hy2
          clear hy hy2 hj
          go_upto_region 10 with fail
          have hdr := below_drew (Below.refl wr.heap.size wr)
          have HB := Aside0.mk (HB.out.step hdr)
          have HL := Aside0.mk (below_then HL.out HL.out.size hdr)
          clear hdr
          obtain ⟨x0, x1, x2, x3, x4⟩ := cells5 HB.out.g0
          refine start_ (n := 11) (S := fun w' => w'.cell? ⟨rb, 0, none⟩ = some (.int .i64 r.f0) ∧ w'.cell? ⟨rb, 1, none⟩ = some (.bool r.f1) ∧ w'.cell? ⟨rb, 2, none⟩ = some (.slice G2 r.f2.length g2) ∧ w'.cell? ⟨rb, 3, none⟩ = some (.slice G3 r.f3.length g3) ∧ w'.cell? ⟨rb, 4, none⟩ = some (.slice G4 r.f4.length g4)) (ds := [9]) #[false, false, false, false, false, false, false, false, false, false, false] (by kernel_rfl) rfl rfl ⟨x0, x1, x2, x3, x4⟩ (fun hHeld => ?_)
          clear x0 x1 x2 x3 x4
          generalize wr.drew = wr at *
          refine pure_ (i := 1) (N := some 45) (v := ?_) (a' := ?_) #[false, true, false, false, false, false, false, false, false, false, false] rfl rfl (by kernel_rfl) (fun _ _ _ h => h) (Or.inl ⟨by rfl, ?_⟩) ?_ ?_
          rotate_left
          · intro w'
            go_simp
            with_reducible rfl
          rotate_left
          · simp only [Act.put, List.setIfInBounds_toArray, List.set_cons_zero, List.set_cons_succ]
            rfl
          refine pure_ (i := 2) (N := some 46) (v := ?_) (a' := ?_) #[false, true, true, false, false, false, false, false, false, false, false] rfl rfl (by kernel_rfl) (fun _ _ _ h => h) (Or.inl ⟨by rfl, ?_⟩) ?_ ?_
          rotate_left
          · intro w'
            go_simp
            with_reducible rfl
          rotate_left
          · simp only [Act.put, List.setIfInBounds_toArray, List.set_cons_zero, List.set_cons_succ]
            rfl
          refine pure_ (i := 3) (N := some 47) (v := ?_) (a' := ?_) #[false, true, true, true, false, false, false, false, false, false, false] rfl rfl (by kernel_rfl) (fun _ _ _ h => h) (Or.inl ⟨by rfl, ?_⟩) ?_ ?_
          rotate_left
          · intro w'
            go_simp
            with_reducible rfl
          rotate_left
          · simp only [Act.put, List.setIfInBounds_toArray, List.set_cons_zero, List.set_cons_succ]
            rfl
          refine take_ (i := 0) (N := some 44) (v := ?_) (a' := ?_) #[true, true, true, true, false, false, false, false, false, false, false] rfl rfl (by kernel_rfl) (fun _ _ _ h => h) (Or.inl ⟨by rfl, ?_⟩) hHeld ?_ ?_
          rotate_left
          · rintro w' ⟨s0, s1, s2, s3, s4⟩
            go_simp
            with_reducible rfl
          rotate_left
          · simp only [Act.put, List.setIfInBounds_toArray, List.set_cons_zero, List.set_cons_succ]
            rfl
          refine join_ (σ := (Value × Value) × Nat) 2 #[true, true, true, true, true, true, true, true, true, false, false] (fun s_ => [(48, s_.1.1), (43, s_.1.1), (49, s_.1.2), (50, .int .i64 0), (10, .pointer (some ⟨s_.2, 0, none⟩))]) (fun s_ w' => ∃ C2 e2 C3 e3 C4 e4, s_.1 = (.tuple #[(.agg #[.int .i64 y.f0, .bool y.f1, .slice C2 y.f2.length e2, .slice C3 y.f3.length e3, .slice C4 y.f4.length e4]), .int .i64 0], (.agg #[.int .i64 y.f0, .bool y.f1, .slice C2 y.f2.length e2, .slice C3 y.f3.length e3, .slice C4 y.f4.length e4])) ∧ BX w w' [(s_.2, #[.int .i64 0, .bool false, .slice none 0 0, .slice none 0 0, .slice none 0 0]), (rb, #[.int .i64 r.f0, .bool r.f1, .slice G2 r.f2.length g2, .slice G3 r.f3.length g3, .slice G4 r.f4.length g4])] ∧ rb ≠ s_.2 ∧ w10.heap.size ≤ s_.2 ∧ Below w10.heap.size w10 w') ?_ ?_
          rotate_left
          · intro hCont
            refine two_ (i := 4) (j := 8) (Ni := some 48) (Nj := some 10) #[true, true, true, true, true, false, false, false, false, false, false] #[true, true, true, true, false, false, false, false, true, false, false] rfl rfl rfl rfl (by kernel_rfl) (by decide) (by decide) (fun K hK => ?_) (fun K hK => ?_)
            · skip
              go_simp
              refine (At_any Lv r G2 g2 G3 g3 G4 g4 (p.extract 0 i) wr (HTR.out.below HL.out) HGR.out (HT.out.2.2.below HB.out.bel) (by simp; omega)).mono ?_
              rw [HY.out]
              rintro e w5 ⟨C2, e2, C3, e3, C4, e4, rfl, ho, hb⟩
              simp only [TV]
              have HB := Aside0.mk (HB.out.step hb)
              have HL := Aside0.mk (below_then HL.out HL.out.size hb)
              clear hb ho
              generalize w5 = wr at *
              refine hK.out _ _ ⟨(blk_cell HB.out.g0 0).trans rfl, (blk_cell HB.out.g0 1).trans rfl, (blk_cell HB.out.g0 2).trans rfl, (blk_cell HB.out.g0 3).trans rfl, (blk_cell HB.out.g0 4).trans rfl⟩ (fun hHeld => ?_)
              clear hK K
              refine pure_ (i := 5) (N := some 43) (v := ?_) (a' := ?_) #[true, true, true, true, true, true, false, false, false, false, false] rfl rfl (by kernel_rfl) (fun _ _ _ h => h) (Or.inl ⟨by rfl, ?_⟩) ?_ ?_
              rotate_left
              · intro w'
                go_simp
                with_reducible rfl
              rotate_left
              · simp only [Act.put, List.setIfInBounds_toArray, List.set_cons_zero, List.set_cons_succ]
                rfl
              refine pure_ (i := 6) (N := some 49) (v := ?_) (a' := ?_) #[true, true, true, true, true, true, true, false, false, false, false] rfl rfl (by kernel_rfl) (fun _ _ _ h => h) (Or.inl ⟨by rfl, ?_⟩) ?_ ?_
              rotate_left
              · intro w'
                go_simp
                with_reducible rfl
              rotate_left
              · simp only [Act.put, List.setIfInBounds_toArray, List.set_cons_zero, List.set_cons_succ]
                rfl
              refine pure_ (i := 7) (N := some 50) (v := ?_) (a' := ?_) #[true, true, true, true, true, true, true, true, false, false, false] rfl rfl (by kernel_rfl) (fun _ _ _ h => h) (Or.inl ⟨by rfl, ?_⟩) ?_ ?_
              rotate_left
              · intro w'
                go_simp
                with_reducible rfl
              rotate_left
              · simp only [Act.put, List.setIfInBounds_toArray, List.set_cons_zero, List.set_cons_succ]
                rfl
              refine one_ (i := 8) (N := some 10) #[true, true, true, true, true, true, true, true, true, false, false] rfl rfl (by kernel_rfl) (by decide) (fun K hK => ?_)
              go_simp
              have hal := below_alloc (Below.refl _ wr) (.cells #[.int .i64 0, .bool false, .slice none 0 0, .slice none 0 0, .slice none 0 0] 26)
              have HLE := Aside0.mk HL.out.size
              have HNE : Aside0 (rb ≠ wr.heap.size) := ⟨Nat.ne_of_lt (blk_lt HB.out.g0)⟩
              have HB := Aside0.mk (HB.out.new HB.out.bel.size #[.int .i64 0, .bool false, .slice none 0 0, .slice none 0 0, .slice none 0 0])
              have HL := Aside0.mk (below_then HL.out HL.out.size hal)
              clear hal
              obtain ⟨yb, hbb⟩ : ∃ q, wr.heap.size = q := ⟨_, rfl⟩
              rw [hbb] at HB HNE HLE ⊢
              clear hbb
              generalize wr.alloc (.cells #[.int .i64 0, .bool false, .slice none 0 0, .slice none 0 0, .slice none 0 0] 26) = wr at *
              refine hK.out _ _ ⟨(blk_cell HB.out.g1 0).trans rfl, (blk_cell HB.out.g1 1).trans rfl, (blk_cell HB.out.g1 2).trans rfl, (blk_cell HB.out.g1 3).trans rfl, (blk_cell HB.out.g1 4).trans rfl⟩ (fun hHeld => ?_)
              clear hK K
              exact norm_ (by simp only [putAll, Act.put, List.setIfInBounds_toArray, List.set_cons_zero, List.set_cons_succ]; first | done | rfl) (hCont ((_, _), yb) _ ⟨C2, e2, C3, e3, C4, e4, rfl, HB.out, HNE.out, HLE.out, HL.out⟩)
            · skip
              go_simp
              have hal := below_alloc (Below.refl _ wr) (.cells #[.int .i64 0, .bool false, .slice none 0 0, .slice none 0 0, .slice none 0 0] 26)
              have HLE := Aside0.mk HL.out.size
              have HNE : Aside0 (rb ≠ wr.heap.size) := ⟨Nat.ne_of_lt (blk_lt HB.out.g0)⟩
              have HB := Aside0.mk (HB.out.new HB.out.bel.size #[.int .i64 0, .bool false, .slice none 0 0, .slice none 0 0, .slice none 0 0])
              have HL := Aside0.mk (below_then HL.out HL.out.size hal)
              clear hal
              obtain ⟨yb, hbb⟩ : ∃ q, wr.heap.size = q := ⟨_, rfl⟩
              rw [hbb] at HB HNE HLE ⊢
              clear hbb
              generalize wr.alloc (.cells #[.int .i64 0, .bool false, .slice none 0 0, .slice none 0 0, .slice none 0 0] 26) = wr at *
              refine hK.out _ _ ⟨(blk_cell HB.out.g1 0).trans rfl, (blk_cell HB.out.g1 1).trans rfl, (blk_cell HB.out.g1 2).trans rfl, (blk_cell HB.out.g1 3).trans rfl, (blk_cell HB.out.g1 4).trans rfl⟩ (fun hHeld => ?_)
              clear hK K
              refine one_ (i := 4) (N := some 48) #[true, true, true, true, true, false, false, false, true, false, false] rfl rfl (by kernel_rfl) (by decide) (fun K hK => ?_)
              go_simp
              refine (At_any Lv r G2 g2 G3 g3 G4 g4 (p.extract 0 i) wr (HTR.out.below HL.out) HGR.out (HT.out.2.2.below HB.out.bel) (by simp; omega)).mono ?_
              rw [HY.out]
              rintro e w5 ⟨C2, e2, C3, e3, C4, e4, rfl, ho, hb⟩
              simp only [TV]
              have HB := Aside0.mk (HB.out.step hb)
              have HL := Aside0.mk (below_then HL.out HL.out.size hb)
              clear hb ho
              generalize w5 = wr at *
              refine hK.out _ _ ⟨(blk_cell HB.out.g1 0).trans rfl, (blk_cell HB.out.g1 1).trans rfl, (blk_cell HB.out.g1 2).trans rfl, (blk_cell HB.out.g1 3).trans rfl, (blk_cell HB.out.g1 4).trans rfl⟩ (fun hHeld => ?_)
              clear hK K
              refine pure_ (i := 5) (N := some 43) (v := ?_) (a' := ?_) #[true, true, true, true, true, true, false, false, true, false, false] rfl rfl (by kernel_rfl) (fun _ _ _ h => h) (Or.inl ⟨by rfl, ?_⟩) ?_ ?_
              rotate_left
              · intro w'
                go_simp
                with_reducible rfl
              rotate_left
              · simp only [Act.put, List.setIfInBounds_toArray, List.set_cons_zero, List.set_cons_succ]
                rfl
              refine pure_ (i := 6) (N := some 49) (v := ?_) (a' := ?_) #[true, true, true, true, true, true, true, false, true, false, false] rfl rfl (by kernel_rfl) (fun _ _ _ h => h) (Or.inl ⟨by rfl, ?_⟩) ?_ ?_
              rotate_left
              · intro w'
                go_simp
                with_reducible rfl
              rotate_left
              · simp only [Act.put, List.setIfInBounds_toArray, List.set_cons_zero, List.set_cons_succ]
                rfl
              refine pure_ (i := 7) (N := some 50) (v := ?_) (a' := ?_) #[true, true, true, true, true, true, true, true, true, false, false] rfl rfl (by kernel_rfl) (fun _ _ _ h => h) (Or.inl ⟨by rfl, ?_⟩) ?_ ?_
              rotate_left
              · intro w'
                go_simp
                with_reducible rfl
              rotate_left
              · simp only [Act.put, List.setIfInBounds_toArray, List.set_cons_zero, List.set_cons_succ]
                rfl
              exact norm_ (by simp only [putAll, Act.put, List.setIfInBounds_toArray, List.set_cons_zero, List.set_cons_succ]; first | done | rfl) (hCont ((_, _), yb) _ ⟨C2, e2, C3, e3, C4, e4, rfl, HB.out, HNE.out, HLE.out, HL.out⟩)
          rintro ⟨⟨z1, z2⟩, yb⟩ wd ⟨C2, e2, C3, e3, C4, e4, he, hB, hne, hle, hL⟩
          obtain ⟨rfl, rfl⟩ := Prod.mk.inj he
          simp only at hB hne hle
          clear HB HL hHeld he
          have HB := Aside0.mk hB
          have HNE := Aside0.mk hne
          have HLE := Aside0.mk hle
          have HL := Aside0.mk hL
          clear hB hne hle hL wr
          refine norm_ (a' := ?_) (by simp only [putAll, Act.put, List.setIfInBounds_toArray, List.set_cons_zero, List.set_cons_succ]; rfl) ?_
          refine last_ (i := 9) (N := none) #[true, true, true, true, true, true, true, true, true, true, false] rfl rfl (by kernel_rfl) (by decide) (fun K hK => ?_)
          obtain ⟨x0, x1, x2, x3, x4⟩ := cells5 HB.out.g0
          have f0 := blk_frozen HB.out.g0 0
          have f1 := blk_frozen HB.out.g0 1
          have f2 := blk_frozen HB.out.g0 2
          have f3 := blk_frozen HB.out.g0 3
          have f4 := blk_frozen HB.out.g0 4
          have HB9 := Aside0.mk (HB.out.set0 HNE.out (.int .i64 y.f0) (.bool y.f1) (.slice C2 y.f2.length e2) (.slice C3 y.f3.length e3) (.slice C4 y.f4.length e4))
          have HL9 := Aside0.mk (box_below HL.out HLE.out (.int .i64 y.f0) (.bool y.f1) (.slice C2 y.f2.length e2) (.slice C3 y.f3.length e3) (.slice C4 y.f4.length e4))
          go_simp
          refine hK.out _ _ ?_
          clear hK K
          refine pure_ (i := 10) (N := some 11) (v := ?_) (a' := ?_) #[true, true, true, true, true, true, true, true, true, true, true] rfl rfl (by kernel_rfl) (fun _ _ _ h => h) (Or.inl ⟨by rfl, ?_⟩) ?_ ?_
          rotate_left
          · intro w'
            go_simp
            with_reducible rfl
          rotate_left
          · simp only [Act.put, List.setIfInBounds_toArray, List.set_cons_zero, List.set_cons_succ]
            rfl
          refine done_ (by kernel_rfl) ?_
          clear HB HL f0 f1 f2 f3 f4 x0 x1 x2 x3 x4
          have HB := HB9
          have HL := HL9
          clear HB9 HL9
          generalize (((((wd.setCell ⟨yb, 0, none⟩ (.int .i64 y.f0)).setCell ⟨yb, 1, none⟩ (.bool y.f1)).setCell ⟨yb, 2, none⟩ (.slice C2 y.f2.length e2)).setCell ⟨yb, 3, none⟩ (.slice C3 y.f3.length e3)).setCell ⟨yb, 4, none⟩ (.slice C4 y.f4.length e4)) = we at *
          have hy2 : (y.f0 != 2) = false := by rw [HY2.out]; rfl
          have hy0 : we.cell? ⟨yb, 0, none⟩ = some (.int .i64 y.f0) := (blk_cell HB.out.g0 0).trans rfl
          go_wp2_with fail
          exact ⟨⟨i + 1, by go_num, by omega, ⟨HB.out.drop⟩, HL⟩, by simp [intOf]; omega⟩
      · skip
        have hlt' : ¬ (i : Int) < (p.size : Int) := by omega
        obtain ⟨x0, x1, x2, x3, x4⟩ := cells5 HB.out.g0
        go_wp2_with fail
        clear x0 x1 x2 x3 x4
        refine (Count_any Lv r G2 g2 G3 g3 G4 g4 wr (HTR.out.below HL.out) HGR.out).mono ?_
        obtain ⟨nn, hnn⟩ : ∃ q, (CountS Lv r).1 = q := ⟨_, rfl⟩
        obtain ⟨bb, hbb⟩ : ∃ q, (CountS Lv r).2 = q := ⟨_, rfl⟩
        rw [hnn, hbb]
        have hn1 : (1 : Int) ≤ (nn : Int) := by have h9 := CountS_pos HGR.out HCK.out; omega
        clear hnn hbb
        rintro e w11 ⟨rfl, hb⟩
        have HB := Aside0.mk (HB.out.step hb)
        clear hb
        go_wp2_with fail
        refine (known_any _ (HT.out.2.2.below (HA.out ▸ HB.out.bel))).mono ?_
        rintro e w9 ⟨rfl, hb⟩
        have HZ := Aside0.mk (HB.out.step hb)
        clear hb
        go_wp2_with fail
        exact bodyPost_ret (v := .bool true) (by simp [results, Tryd.results8, go_sem]) rfl ⟨rfl, HA.out ▸ HZ.out.bel⟩
end Go.Proofs.YtfnofjcdaghniaaDoor.Tree
