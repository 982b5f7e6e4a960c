/- TreeFound, walked. Own work; printed by gen_fo.py. -/
import Derived.Test.YtfnofjcdaghniaaDoorReJ
import Derived.Test.YtfnofjcdaghniaaDoorReJ
import Derived.Test.YtfnofjcdaghniaaDoorReJ
import Derived.Test.YtfnofjcdaghniaaDoorReJ
namespace Go.Proofs.YtfnofjcdaghniaaDoor.Tree
set_option linter.unusedVariables false
set_option linter.unusedSimpArgs false
open Go.RowKit Go.Proofs.YtfnofjcdaghniaaDoor.PL Go.Proofs.YtfnofjcdaghniaaDoor.Mt Go.Proofs.YtfnofjcdaghniaaDoorW.PrintWords Go.Proofs.YtfnofjcdaghniaaDoorW.PrintLast Go.Proofs.YtfnofjcdaghniaaDoorW.PrintMore
def memB (x : ByteArray) (l : List ByteArray) : Bool := l.any (fun y => decide (x = y))
theorem memB_iff {x : ByteArray} {l : List ByteArray} : memB x l = true ↔ x ∈ l := by
  unfold memB
  rw [List.any_eq_true]
  exact ⟨fun ⟨y, h1, h2⟩ => by rw [of_decide_eq_true h2]; exact h1, fun h => ⟨x, h, decide_eq_true rfl⟩⟩
theorem mem_take_succ {l : List ByteArray} {k : Nat} {q x : ByteArray} (hk : k < l.length) (hq : l[k] = q) : memB x (l.take (k + 1)) = (memB x (l.take k) || decide (x = q)) := by
  unfold memB
  rw [List.take_succ_eq_append_getElem hk, hq, List.any_append]
  simp
theorem bae {a b : ByteArray} : (a.toList == b.toList) = decide (a = b) := by
  rw [Bool.eq_iff_iff, beq_iff_eq, decide_eq_true_iff]
  exact ba_eq
theorem FilesS_le {N : Nat} {t : S26} (hG : GT N t) : (FilesS N t).length ≤ 65536 := by
  unfold FilesS
  by_cases h : (chk N t 1 0).1 = 0
  · rw [if_neg (by simpa using h), sortS_len]; exact (filesS_le hG h).2
  · rw [if_pos h]; simp
set_option maxRecDepth 20000 in
set_option maxHeartbeats 8000000 in
theorem TreeFound_row (N : Nat) (t : S26) (A2 : Option Addr) (c2 : Nat) (A3 : Option Addr) (c3 : Nat) (A4 : Option Addr) (c4 : Nat) (p : ByteArray) (A : Option Addr) (c : Nat) (b : List Int) (w : World)
    (ht : TR w t A2 c2 A3 c3 A4 c4) (hG : GT N t) (hp : p.size ≤ 140737488351232)
    (hC : (Kd.int .u8).C w A b.length b) (hc : b.length ≤ c) (hm : b.length ≤ maxLen) (hb : b.length * 1 ≤ 140737488351232) (hw : ∀ x ∈ b, (Lit.int .u8 x).wf = true) (hg : G0 w) :
    Calls Tryd.prog 4 #[TV t A2 c2 A3 c3 A4 c4, .string p, .slice A b.length c] w fun e w' => e = .returned (.bool true) ∧ Below w.heap.size w w' := by
  have HT := Aside0.mk (And.intro ht hg)
  have HG := Aside0.mk hG
  obtain ⟨x, hx⟩ : ∃ q : S26, q = ⟨1, false, b, [], []⟩ := ⟨_, rfl⟩
  have HX := Aside0.mk hx
  have HXT : Aside0 (TR w x A c none 0 none 0) := ⟨by subst hx; exact ⟨hc, hC, Nat.le_refl _, Kd.C_nil _ _, Nat.le_refl _, Kd.C_nil _ _⟩⟩
  have HGX : Aside0 (GT 1 x) := ⟨by subst hx; exact ⟨(by show (Lit.int .i64 1).wf = true; decide), ⟨hm, hb, hw⟩, ⟨(by show 0 ≤ maxLen; decide), (by show 0 * 16 ≤ 140737488351232; decide), fun s hs => by simp at hs⟩, (by show 0 ≤ maxLen; decide), (by show 0 * 88 ≤ 140737488351232; decide), fun s hs => by simp at hs⟩⟩
  have HXV : Aside0 (TV x A c none 0 none 0 = .agg #[.int .i64 1, .bool false, .slice A b.length c, .slice none 0 0, .slice none 0 0]) := ⟨by subst hx; rfl⟩
  clear ht hg hG hC hc hw hx hm
  have HB := Aside0.mk ((BX.nil (Below.refl w.heap.size w)).new (Nat.le_refl _) #[.int .i64 t.f0, .bool t.f1, .slice A2 t.f2.length c2, .slice A3 t.f3.length c3, .slice A4 t.f4.length c4])
  go_enter Tryd.func4, Tryd.ntmps4
  go_upto_region 1 with fail
  generalize (w.alloc (.cells #[.int .i64 t.f0, .bool t.f1, .slice A2 t.f2.length c2, .slice A3 t.f3.length c3, .slice A4 t.f4.length c4] 26)) = w3 at *
  obtain ⟨a, ha⟩ : ∃ q, w.heap.size = q := ⟨_, rfl⟩
  rw [ha] at HB ⊢
  have HA := Aside0.mk ha
  clear ha
  obtain ⟨x0, x1, x2, x3, x4⟩ := cells5 HB.out.g0
  have hal := below_alloc (Below.refl w3.heap.size w3) (.cells #[.int .i64 t.f0, .bool t.f1, .slice A2 t.f2.length c2, .slice A3 t.f3.length c3, .slice A4 t.f4.length c4] 26)
  have HR := Aside0.mk (heap_alloc_new w3 (.cells #[.int .i64 t.f0, .bool t.f1, .slice A2 t.f2.length c2, .slice A3 t.f3.length c3, .slice A4 t.f4.length c4] 26))
  have HB4 := Aside0.mk (HB.out.step hal)
  clear hal HB
  go_wp2_with fail
  clear x0 x1 x2 x3 x4
  generalize w3.alloc (.cells #[.int .i64 t.f0, .bool t.f1, .slice A2 t.f2.length c2, .slice A3 t.f3.length c3, .slice A4 t.f4.length c4] 26) = w4 at *
  have HB := HB4
  clear HB4
  refine (heavy_any N [t] (some ⟨w3.heap.size, 0, none⟩) 1 w4 (one_C HR.out (HT.out.1.below HB.out.bel)) (by intro v hv; simp at hv; subst hv; exact HG.out) (by simp)).mono ?_
  rintro e w5 ⟨hv, rfl, hb, -⟩
  have HB := Aside0.mk (HB.out.step hb)
  clear hb HR
  cases hv with
  | true =>
    go_wp2_with fail
    exact bodyPost_ret (v := .bool true) (by simp [results, Tryd.results4, go_sem]) rfl ⟨rfl, HA.out ▸ HB.out.bel⟩
  | false =>
    by_cases h6 : p.size ≤ 600
    rotate_left
    · skip
      have h6' : (600 : Int) < (p.size : Int) := by omega
      go_wp2_with fail
      exact bodyPost_ret (v := .bool true) (by simp [results, Tryd.results4, go_sem]) rfl ⟨rfl, HA.out ▸ HB.out.bel⟩
    have h6' : ¬ (600 : Int) < (p.size : Int) := by omega
    by_cases h7 : b.length ≤ 3000
    rotate_left
    · skip
      have h7' : (3000 : Int) < (b.length : Int) := by omega
      go_wp2_with fail
      exact bodyPost_ret (v := .bool true) (by simp [results, Tryd.results4, go_sem]) rfl ⟨rfl, HA.out ▸ HB.out.bel⟩
    have h7' : ¬ (3000 : Int) < (b.length : Int) := by omega
    obtain ⟨x0, x1, x2, x3, x4⟩ := cells5 HB.out.g0
    go_wp2_with fail
    clear x0 x1 x2 x3 x4
    have HCALL := Put_any N 1 t x A2 c2 A3 c3 A4 c4 A c none 0 none 0 p w5 (HT.out.1.below HB.out.bel) (HXT.out.below HB.out.bel) HG.out HGX.out (HT.out.2.below HB.out.bel) (by omega)
    rw [HXV.out] at HCALL
    refine HCALL.mono ?_
    clear HCALL
    obtain ⟨⟨r, k⟩, hr⟩ : ∃ q, PutS N 1 t p x = q := ⟨_, rfl⟩
    rw [hr]
    rintro e w9 ⟨G2, g2, G3, g3, G4, g4, rfl, ho, hb⟩
    simp only [TV]
    have HR := Aside0.mk hr
    have HB := Aside0.mk (HB.out.step hb)
    have HTR := Aside0.mk ho.TR
    clear hb ho hr
    go_upto_region 4 with fail
    have hal := below_alloc (Below.refl _ w9) (.cells #[.int .i64 r.f0, .bool r.f1, .slice G2 r.f2.length g2, .slice G3 r.f3.length g3, .slice G4 r.f4.length g4] 26)
    have HB := Aside0.mk (HB.out.new HB.out.bel.size #[.int .i64 r.f0, .bool r.f1, .slice G2 r.f2.length g2, .slice G3 r.f3.length g3, .slice G4 r.f4.length g4])
    have HTR := Aside0.mk (HTR.out.below hal)
    clear hal
    obtain ⟨rb, hbb⟩ : ∃ q, w9.heap.size = q := ⟨_, rfl⟩
    rw [hbb] at HB ⊢
    clear hbb
    generalize w9.alloc (.cells #[.int .i64 r.f0, .bool r.f1, .slice G2 r.f2.length g2, .slice G3 r.f3.length g3, .slice G4 r.f4.length g4] 26) = w10 at *
    by_cases hz : k = 0
    rotate_left
    · skip
      have hkb : (k != 0) = true := by simpa using hz
      go_wp2_with fail
      refine (known_any _ (HT.out.2.below (HA.out ▸ HB.out.bel))).mono ?_
      rintro e w99 ⟨rfl, hb⟩
      have HB := Aside0.mk (HB.out.step hb)
      clear hb
      go_wp2_with fail
      exact bodyPost_ret (v := .bool true) (by simp [results, Tryd.results4, go_sem]) rfl ⟨rfl, HA.out ▸ HB.out.bel⟩
    subst hz
    obtain ⟨Lv, hLv⟩ : ∃ q, N + 1 + (partsS p).length + 1 = q := ⟨_, rfl⟩
    have HGR : Aside0 (GT Lv r) := ⟨hLv ▸ PutS_GT HG.out HGX.out HR.out⟩
    have HLAW := Aside0.mk (found_law hLv HG.out HGR.out HR.out (by rw [HX.out]))
    clear hLv
    obtain ⟨x0, x1, x2, x3, x4⟩ := cells5 HB.out.g0
    go_wp2_with fail
    clear x0 x1 x2 x3 x4
    have hn6 := FilesS_le HGR.out
    have hm6 := FilesS_le HG.out
    obtain ⟨ls, hls⟩ : ∃ q, FilesS Lv r = q := ⟨_, rfl⟩
    obtain ⟨was, hwas⟩ : ∃ q, FilesS N t = q := ⟨_, rfl⟩
    rw [hls, hwas] at HLAW
    rw [hls] at hn6
    rw [hwas] at hm6
    have HLS := Aside0.mk (And.intro hls hwas)
    clear hls hwas
    refine (Files_any Lv r G2 g2 G3 g3 G4 g4 w10 HTR.out HGR.out).mono ?_
    rw [HLS.out.1]
    rintro e w11 ⟨F1, f1, rfl, hf1, hC1, hb⟩
    have HB := Aside0.mk (HB.out.step hb)
    have HC1 := Aside0.mk hC1
    clear hb hC1 HTR
    obtain ⟨x0, x1, x2, x3, x4⟩ := cells5 HB.out.g1
    go_wp2_with fail
    clear x0 x1 x2 x3 x4
    refine (RFiles_any N t A2 c2 A3 c3 A4 c4 w11 (HT.out.1.below HB.out.bel) HG.out).mono ?_
    rw [HLS.out.2]
    rintro e w12 ⟨F2, f2, rfl, hf2, hC2, hb⟩
    have HB := Aside0.mk (HB.out.step hb)
    have HC1 := Aside0.mk (Kd.C_below HC1.out hb)
    have HC2 := Aside0.mk hC2
    have HBW := HB
    clear hb hC2 HB
    go_wp2_with fail
    go_loopw [11, 12] (fun fd v wr => ∃ (i : Nat) (fb : Bool), fd = .bool fb ∧ v = .int .i64 (i : Int) ∧ i ≤ ls.length ∧ Aside0 (fb = memB p (ls.take i)) ∧ Aside0 (Below w12.heap.size w12 wr)) (fun _ v _ => ls.length - (intOf v).toNat)
    case atStart => exact ⟨0, false, rfl, rfl, Nat.zero_le _, ⟨rfl⟩, ⟨Below.refl _ _⟩⟩
    case round =>
      obtain ⟨i, fb, rfl, rfl, hi, HFB, HL⟩ := hrel
      by_cases hlt : i < ls.length
      · skip
        have hlt' : (i : Int) < (ls.length : Int) := by omega
        obtain ⟨q, hq⟩ : ∃ q, ls[i] = q := ⟨_, rfl⟩
        have HQ := Aside0.mk hq
        clear hq
        go_wp2_with fail
        go_loopw [13, 14] (fun od v wr => ∃ (j : Nat) (ob : Bool), od = .bool ob ∧ v = .int .i64 (j : Int) ∧ j ≤ was.length ∧ Aside0 (ob = memB q (was.take j)) ∧ Aside0 (Below w12.heap.size w12 wr)) (fun _ v _ => was.length - (intOf v).toNat)
        case atStart => exact ⟨0, false, rfl, rfl, Nat.zero_le _, ⟨rfl⟩, HL⟩
        case round =>
          clear HL
          obtain ⟨j, ob, rfl, rfl, hj, HOB, HL⟩ := hrel
          obtain ⟨ad, hA⟩ : ∃ z, F1 = some z := by obtain ⟨ad, hA, -⟩ := Kd.at_string HC1.out (i : Int) (by omega) (by omega); exact ⟨ad, hA⟩
          subst hA
          have hcq : wr.cell? (ad.add i) = some (.string q) := by
            obtain ⟨ad', hA, hcs⟩ := Kd.at_string HC1.out (i : Int) (by omega) (by omega)
            rw [rdB hlt, HQ.out, Int.toNat_natCast] at hcs
            obtain rfl := Option.some.inj hA
            exact pw_cell_below HL.out hcs
          by_cases hlj : j < was.length
          · skip
            have hlj' : (j : Int) < (was.length : Int) := by omega
            obtain ⟨z, hz⟩ : ∃ z, was[j] = z := ⟨_, rfl⟩
            obtain ⟨ad2, hA2⟩ : ∃ z, F2 = some z := by obtain ⟨ad, hA, -⟩ := Kd.at_string HC2.out (j : Int) (by omega) (by omega); exact ⟨ad, hA⟩
            subst hA2
            have hcz : wr.cell? (ad2.add j) = some (.string z) := by
              obtain ⟨ad', hA, hcs⟩ := Kd.at_string HC2.out (j : Int) (by omega) (by omega)
              rw [rdB hlj, hz, Int.toNat_natCast] at hcs
              obtain rfl := Option.some.inj hA
              exact pw_cell_below HL.out hcs
            have HMT := Aside0.mk (mem_take_succ (x := q) hlj hz)
            clear hz
            obtain ⟨e0, he0⟩ : ∃ e0, (z.toList == q.toList) = e0 := ⟨_, rfl⟩
            have HE0 : Aside0 (decide (q = z) = e0) := ⟨by rw [← he0, bae]; exact decide_eq_decide.2 ⟨fun h => h.symm, fun h => h.symm⟩⟩
            cases ob with
            | true =>
              go_upto_region 16 with fail
              go_quiet (fail)
              clear hcq hcz
              have HL := Aside0.mk (below_then HL.out HL.out.size (pw_below_drewN (Below.refl _ wr) nq))
              generalize (wr.drewN nq) = wr at *
              go_wp2_with fail
              exact ⟨⟨j + 1, true, by first | rfl | simp, by go_num, by omega, ⟨by rw [HMT.out, ← HOB.out, HE0.out]; rfl⟩, HL⟩, by simp [intOf]; omega⟩
            | false =>
              go_upto_region 16 with fail
              go_quiet (fail)
              clear hcq hcz
              have HL := Aside0.mk (below_then HL.out HL.out.size (pw_below_drewN (Below.refl _ wr) nq))
              generalize (wr.drewN nq) = wr at *
              go_wp2_with fail
              exact ⟨⟨j + 1, e0, by first | rfl | simp, by go_num, by omega, ⟨by rw [HMT.out, ← HOB.out, HE0.out]; rfl⟩, HL⟩, by simp [intOf]; omega⟩
          · skip
            have hlj' : ¬ (j : Int) < (was.length : Int) := by omega
            have HOW : Aside0 (ob = memB q was) := ⟨by rw [HOB.out, List.take_of_length_le (by omega)]⟩
            have HMT := Aside0.mk (mem_take_succ (x := p) hlt HQ.out)
            have HQL : Aside0 (q ∈ ls) := ⟨by rw [← HQ.out]; exact List.getElem_mem hlt⟩
            cases hqp : (q.toList == p.toList) with
            | true =>
              have HPQ : Aside0 (p = q) := ⟨(ba_eq.1 (by simpa using hqp)).symm⟩
              by_cases hi0 : 0 < i
              · skip
                have hi0' : (0 : Int) < (i : Int) := by omega
                obtain ⟨m, hm⟩ : ∃ m, i = m + 1 := ⟨i - 1, by omega⟩
                have hml : m < ls.length := by omega
                obtain ⟨q2, hq2⟩ : ∃ z, ls[m] = z := ⟨_, rfl⟩
                have hcm : wr.cell? (ad.add m) = some (.string q2) := by
                  obtain ⟨ad', hA, hcs⟩ := Kd.at_string HC1.out (m : Int) (by omega) (by omega)
                  rw [rdB hml, hq2, Int.toNat_natCast] at hcs
                  obtain rfl := Option.some.inj hA
                  exact pw_cell_below HL.out hcs
                have hmi : (i : Int) - 1 = (m : Int) := by omega
                have hml' : (m : Int) < (ls.length : Int) := by omega
                have hwm : IntKind.i64.wrap (m : Int) = (m : Int) := by have h1 := hml'; have h2 := hn6; simp [IntKind.wrap, IntKind.bits, IntKind.signed]; omega
                have hle : Op.bytesLess q.toList q2.toList = false := by
                  have h1 := (List.pairwise_iff_getElem.1 HLAW.out.2.2.1) m i hml hlt (by omega)
                  rw [HQ.out, hq2] at h1
                  exact h1
                have hne : (q.toList == q2.toList) = false := by
                  rw [bae]
                  refine decide_eq_false (fun e => ?_)
                  have h1 := (List.pairwise_iff_getElem.1 HLAW.out.2.2.2) m i hml hlt (by omega)
                  rw [HQ.out, hq2] at h1
                  exact h1 e.symm
                clear hq2 hm
                go_upto_region 21 with fail
                go_quiet (fail)
                clear hcq hcm
                have HL := Aside0.mk (below_then HL.out HL.out.size (pw_below_drewN (Below.refl _ wr) nq))
                generalize (wr.drewN nq) = wr at *
                go_wp2_with fail
                exact ⟨⟨i + 1, true, rfl, by go_num, by omega, ⟨by rw [HMT.out, decide_eq_true (show p = q from HPQ.out)]; simp⟩, HL⟩, by simp [intOf]; omega⟩

              · skip
                have hd : ¬ (0 : Int) < (i : Int) := by omega
                have hd2 : decide ((0 : Int) < (i : Int)) = false := decide_eq_false hd
                go_upto_region 21 with fail
                go_quiet (fail)
                clear hcq
                have HL := Aside0.mk (below_then HL.out HL.out.size (pw_below_drewN (Below.refl _ wr) nq))
                generalize (wr.drewN nq) = wr at *
                go_wp2_with fail
                exact ⟨⟨i + 1, true, rfl, by go_num, by omega, ⟨by rw [HMT.out, decide_eq_true (show p = q from HPQ.out)]; simp⟩, HL⟩, by simp [intOf]; omega⟩
            | false =>
              have HPQ : Aside0 (¬ p = q) := ⟨fun e => by rw [e] at hqp; simp at hqp⟩
              obtain rfl : ob = true := by
                rw [HOW.out]
                refine memB_iff.2 ?_
                rcases HLAW.out.1 q HQL.out with h | h
                · exact h
                · exact absurd h.symm HPQ.out
              by_cases hi0 : 0 < i
              · skip
                have hi0' : (0 : Int) < (i : Int) := by omega
                obtain ⟨m, hm⟩ : ∃ m, i = m + 1 := ⟨i - 1, by omega⟩
                have hml : m < ls.length := by omega
                obtain ⟨q2, hq2⟩ : ∃ z, ls[m] = z := ⟨_, rfl⟩
                have hcm : wr.cell? (ad.add m) = some (.string q2) := by
                  obtain ⟨ad', hA, hcs⟩ := Kd.at_string HC1.out (m : Int) (by omega) (by omega)
                  rw [rdB hml, hq2, Int.toNat_natCast] at hcs
                  obtain rfl := Option.some.inj hA
                  exact pw_cell_below HL.out hcs
                have hmi : (i : Int) - 1 = (m : Int) := by omega
                have hml' : (m : Int) < (ls.length : Int) := by omega
                have hwm : IntKind.i64.wrap (m : Int) = (m : Int) := by have h1 := hml'; have h2 := hn6; simp [IntKind.wrap, IntKind.bits, IntKind.signed]; omega
                have hle : Op.bytesLess q.toList q2.toList = false := by
                  have h1 := (List.pairwise_iff_getElem.1 HLAW.out.2.2.1) m i hml hlt (by omega)
                  rw [HQ.out, hq2] at h1
                  exact h1
                have hne : (q.toList == q2.toList) = false := by
                  rw [bae]
                  refine decide_eq_false (fun e => ?_)
                  have h1 := (List.pairwise_iff_getElem.1 HLAW.out.2.2.2) m i hml hlt (by omega)
                  rw [HQ.out, hq2] at h1
                  exact h1 e.symm
                clear hq2 hm
                go_upto_region 21 with fail
                go_quiet (fail)
                clear hcq hcm
                have HL := Aside0.mk (below_then HL.out HL.out.size (pw_below_drewN (Below.refl _ wr) nq))
                generalize (wr.drewN nq) = wr at *
                go_wp2_with fail
                exact ⟨⟨i + 1, fb, rfl, by go_num, by omega, ⟨by rw [HMT.out, decide_eq_false (show ¬ p = q from HPQ.out), Bool.or_false]; exact HFB.out⟩, HL⟩, by simp [intOf]; omega⟩

              · skip
                have hd : ¬ (0 : Int) < (i : Int) := by omega
                have hd2 : decide ((0 : Int) < (i : Int)) = false := decide_eq_false hd
                go_upto_region 21 with fail
                go_quiet (fail)
                clear hcq
                have HL := Aside0.mk (below_then HL.out HL.out.size (pw_below_drewN (Below.refl _ wr) nq))
                generalize (wr.drewN nq) = wr at *
                go_wp2_with fail
                exact ⟨⟨i + 1, fb, rfl, by go_num, by omega, ⟨by rw [HMT.out, decide_eq_false (show ¬ p = q from HPQ.out), Bool.or_false]; exact HFB.out⟩, HL⟩, by simp [intOf]; omega⟩
      · skip
        have hlt' : ¬ (i : Int) < (ls.length : Int) := by omega
        obtain rfl : fb = true := by
          rw [HFB.out, List.take_of_length_le (by omega)]
          exact memB_iff.2 HLAW.out.2.1
        have HB := Aside0.mk (HBW.out.step HL.out)
        go_wp2_with fail
        refine (known_any _ (HT.out.2.below (HA.out ▸ HB.out.bel))).mono ?_
        rintro e w99 ⟨rfl, hb⟩
        have HB := Aside0.mk (HB.out.step hb)
        clear hb
        go_wp2_with fail
        exact bodyPost_ret (v := .bool true) (by simp [results, Tryd.results4, go_sem]) rfl ⟨rfl, HA.out ▸ HB.out.bel⟩
end Go.Proofs.YtfnofjcdaghniaaDoor.Tree
