/- trees: Equal, walked. Own work. -/
import Derived.Test.YtfnofjcdaghniaaDoorTrA
import Derived.Laws.Cover1
import Derived.BigQuiet
namespace Go.Proofs.YtfnofjcdaghniaaDoor.Tree
set_option linter.unusedVariables false
set_option linter.unusedSimpArgs false
open Go.RowKit Go.Proofs.YtfnofjcdaghniaaDoor.PL Go.Proofs.YtfnofjcdaghniaaDoor.Mt Go.Proofs.YtfnofjcdaghniaaDoorW.PrintWords Go.Proofs.YtfnofjcdaghniaaDoorW.PrintLast Go.Proofs.YtfnofjcdaghniaaDoorW.PrintMore
open Classical in
/-- are two trees one? -/
noncomputable def eqT (t u : S26) : Bool := decide (t = u)
theorem eqT_iff {t u : S26} : eqT t u = true ↔ t = u := by unfold eqT; exact @decide_eq_true_iff _ (Classical.propDecidable _)
theorem eqT_false {t u : S26} (h : t ≠ u) : eqT t u = false := by unfold eqT; exact @decide_eq_false _ (Classical.propDecidable _) h
theorem eqT_true {t u : S26} (h : t = u) : eqT t u = true := eqT_iff.2 h
theorem nx {n : Nat} (h : n < 9223372036854775807) : wrap64 ((n : Int) + 1) = ((n + 1 : Nat) : Int) := by rw [w64 (by omega) (by omega)]; omega
theorem ba_eq {a b : ByteArray} : a.toList = b.toList ↔ a = b := by
  constructor
  · intro h
    rw [toList_data, toList_data] at h
    exact ByteArray.ext (Array.toList_inj.1 h)
  · rintro rfl; rfl
theorem rdT' {ks : List S26} {i : Nat} (h : i < ks.length) : rd_T26 ks (i : Int) = ks[i] := by
  unfold rd_T26
  rw [Int.toNat_natCast, List.getD_eq_getElem?_getD, List.getElem?_eq_getElem h]
  rfl
theorem rdB' {l : List ByteArray} {i : Nat} (h : i < l.length) : rdOf ByteArray.empty l (i : Int) = l[i] := by
  unfold rdOf
  rw [List.getD_eq_getElem?_getD, Int.toNat_natCast, List.getElem?_eq_getElem h]
  rfl
structure EB (w wr : World) (a b : Nat) (oa ob : Array Value) : Prop where
  ba : wr.heap[a]? = some (.cells oa 26 (0, 0))
  bb : wr.heap[b]? = some (.cells ob 26 (0, 0))
  bel : Below w.heap.size w wr
theorem EB.step {w wr w2 : World} {a b : Nat} {oa ob : Array Value} (h : EB w wr a b oa ob) (hb : Below wr.heap.size wr w2) : EB w w2 a b oa ob := ⟨(hb.block _ (blk_lt h.ba)).trans h.ba, (hb.block _ (blk_lt h.bb)).trans h.bb, below_then h.bel h.bel.size hb⟩
def CE (N : Nat) : Prop := ∀ (M : Nat) (t : S26) (A2 : Option Addr) (c2 : Nat) (A3 : Option Addr) (c3 : Nat) (A4 : Option Addr) (c4 : Nat) (u : S26) (B2 : Option Addr) (d2 : Nat) (B3 : Option Addr) (d3 : Nat) (B4 : Option Addr) (d4 : Nat) (w : World), TR w t A2 c2 A3 c3 A4 c4 → TR w u B2 d2 B3 d3 B4 d4 → GT N t → GT M u →
  Calls Tryd.prog 14 #[TV t A2 c2 A3 c3 A4 c4, TV u B2 d2 B3 d3 B4 d4] w fun e w' => e = .returned (.bool (eqT t u)) ∧ Below w.heap.size w w'
set_option maxRecDepth 20000 in
set_option maxHeartbeats 8000000 in
theorem equal_step (N : Nat) (ih : CE N) : CE (N + 1) := by
  intro M t A2 c2 A3 c3 A4 c4 u B2 d2 B3 d3 B4 d4 w ht hu hG hH
  obtain ⟨M, rfl⟩ : ∃ q, M = q + 1 := by
    cases M with
    | zero => exact hH.elim
    | succ q => exact ⟨q, rfl⟩
  have HT := Aside0.mk (And.intro ht hu)
  have HG := Aside0.mk (And.intro hG hH)
  have IH := Aside0.mk ih
  have hl3 := hG.2.2.1.2.1
  have hl4 := hG.2.2.2.2.1
  have hm3 := hH.2.2.1.2.1
  have hm4 := hH.2.2.2.2.1
  clear ht hu hG hH ih
  obtain ⟨w1, hw1⟩ : ∃ q, w.alloc (.cells #[.int .i64 t.f0, .bool t.f1, .slice A2 t.f2.length c2, .slice A3 t.f3.length c3, .slice A4 t.f4.length c4] 26) = q := ⟨_, rfl⟩
  have h1 : Below w.heap.size w w1 := hw1 ▸ below_alloc (Below.refl _ w) _
  have k1 : w1.heap[w.heap.size]? = some (.cells #[.int .i64 t.f0, .bool t.f1, .slice A2 t.f2.length c2, .slice A3 t.f3.length c3, .slice A4 t.f4.length c4] 26) := hw1 ▸ heap_alloc_new w _
  have HE : Aside0 (EB w (w1.alloc (.cells #[.int .i64 u.f0, .bool u.f1, .slice B2 u.f2.length d2, .slice B3 u.f3.length d3, .slice B4 u.f4.length d4] 26)) w.heap.size w1.heap.size #[.int .i64 t.f0, .bool t.f1, .slice A2 t.f2.length c2, .slice A3 t.f3.length c3, .slice A4 t.f4.length c4] #[.int .i64 u.f0, .bool u.f1, .slice B2 u.f2.length d2, .slice B3 u.f3.length d3, .slice B4 u.f4.length d4]) := ⟨⟨blk_alloc k1 _, heap_alloc_new w1 _, below_alloc h1 _⟩⟩
  clear h1 k1
  go_enter Tryd.func14, Tryd.ntmps14
  go_upto_region 1 with fail
  generalize w1.alloc (.cells #[.int .i64 u.f0, .bool u.f1, .slice B2 u.f2.length d2, .slice B3 u.f3.length d3, .slice B4 u.f4.length d4] 26) = w2 at *
  clear hw1
  obtain ⟨a, ha⟩ : ∃ q, w.heap.size = q := ⟨_, rfl⟩
  rw [ha] at HE ⊢
  have HAA := Aside0.mk ha
  clear ha
  obtain ⟨b, hb⟩ : ∃ q, w1.heap.size = q := ⟨_, rfl⟩
  rw [hb] at HE ⊢
  clear hb
  have hcv1 := Kd.C_string (P := Tryd.prog) (src := 22) (dst := 9) (e := 5) Tryd.underlying22 Tryd.underlying5 Tryd.underlying9 (Kd.C_below HT.out.1.2.1 HE.out.bel) (c := c2)
  have hcv2 := Kd.C_string (P := Tryd.prog) (src := 22) (dst := 9) (e := 5) Tryd.underlying22 Tryd.underlying5 Tryd.underlying9 (Kd.C_below HT.out.2.2.1 HE.out.bel) (c := d2)
  obtain ⟨x0, x1, x2, x3, x4⟩ := cells5 HE.out.ba
  obtain ⟨b0, b1, b2, b3, b4⟩ := cells5 HE.out.bb
  by_cases h0 : t.f0 = u.f0
  rotate_left
  · skip
    have hi : (t.f0 != u.f0) = true := by simpa using h0
    have HNE : Aside0 (eqT t u = false) := ⟨eqT_false (fun e => h0 (congrArg S26.f0 e))⟩
    clear h0
    go_wp2_with fail
    exact bodyPost_ret (v := .bool false) (by simp [results, Tryd.results14, go_sem]) rfl ⟨by rw [HNE.out], HAA.out ▸ HE.out.bel⟩
  have hi : (t.f0 != u.f0) = false := by simpa using h0
  have H0 := Aside0.mk h0
  clear h0
  by_cases h1 : t.f1 = u.f1
  rotate_left
  · skip
    have hj : (!(t.f1 == u.f1)) = true := by simpa using h1
    have HNE : Aside0 (eqT t u = false) := ⟨eqT_false (fun e => h1 (congrArg S26.f1 e))⟩
    go_wp2_with fail
    exact bodyPost_ret (v := .bool false) (by simp [results, Tryd.results14, go_sem]) rfl ⟨by rw [HNE.out], HAA.out ▸ HE.out.bel⟩
  have hj : (!(t.f1 == u.f1)) = false := by simpa using h1
  have hj2 : (t.f1 = u.f1) = True := eq_true h1
  have H1 := Aside0.mk h1
  clear h1
  cases hs2 : ((strOfNums t.f2).toList == (strOfNums u.f2).toList) with
  | false =>
    have HNE : Aside0 (eqT t u = false) := ⟨eqT_false (fun e => by rw [e] at hs2; simp at hs2)⟩
    go_wp2_with fail
    exact bodyPost_ret (v := .bool false) (by simp [results, Tryd.results14, go_sem]) rfl ⟨by rw [HNE.out], HAA.out ▸ HE.out.bel⟩
  | true =>
    have H2 : Aside0 (t.f2 = u.f2) := ⟨str_inj (B8.of_wf HG.out.1.2.1.2.2) (B8.of_wf HG.out.2.2.1.2.2) (by simpa using hs2)⟩
    by_cases h3 : t.f3.length = u.f3.length
    rotate_left
    · skip
      have hk : ((t.f3.length : Int) != (u.f3.length : Int)) = true := by simp; omega
      have HNE : Aside0 (eqT t u = false) := ⟨eqT_false (fun e => h3 (congrArg (fun z => z.f3.length) e))⟩
      clear h3
      go_wp2_with fail
      exact bodyPost_ret (v := .bool false) (by simp [results, Tryd.results14, go_sem]) rfl ⟨by rw [HNE.out], HAA.out ▸ HE.out.bel⟩
    have hk : ((t.f3.length : Int) != (u.f3.length : Int)) = false := by rw [h3]; simp
    have H3 := Aside0.mk h3
    clear h3
    by_cases h4 : t.f4.length = u.f4.length
    rotate_left
    · skip
      have hk4 : ((t.f4.length : Int) != (u.f4.length : Int)) = true := by simp; omega
      have HNE : Aside0 (eqT t u = false) := ⟨eqT_false (fun e => h4 (congrArg (fun z => z.f4.length) e))⟩
      clear h4
      go_wp2_with fail
      exact bodyPost_ret (v := .bool false) (by simp [results, Tryd.results14, go_sem]) rfl ⟨by rw [HNE.out], HAA.out ▸ HE.out.bel⟩
    have hk4 : ((t.f4.length : Int) != (u.f4.length : Int)) = false := by rw [h4]; simp
    have H4 := Aside0.mk h4
    clear h4
    go_wp2_with fail
    clear hcv1 hcv2 x0 x1 x2 x3 x4
    clear b0 b1 b2 b3 b4
    go_loopw [5] (fun v wr => ∃ k : Nat, v = .int .i64 (k : Int) ∧ k ≤ t.f3.length ∧ Aside0 (t.f3.take k = u.f3.take k) ∧ Aside0 (EB w wr a b #[.int .i64 t.f0, .bool t.f1, .slice A2 t.f2.length c2, .slice A3 t.f3.length c3, .slice A4 t.f4.length c4] #[.int .i64 u.f0, .bool u.f1, .slice B2 u.f2.length d2, .slice B3 u.f3.length d3, .slice B4 u.f4.length d4])) (fun v _ => t.f3.length - (intOf v).toNat)
    case atStart => exact ⟨0, rfl, Nat.zero_le _, ⟨rfl⟩, HE⟩
    case round =>
      clear HE
      obtain ⟨k, rfl, hk9, HP, HE⟩ := hrel
      by_cases hlt : k < t.f3.length
      · skip
        have hlu : k < u.f3.length := by rw [← H3.out]; exact hlt
        have hlt' : (k : Int) < (t.f3.length : Int) := by omega
        have hlu' : (k : Int) < (u.f3.length : Int) := by omega
        obtain ⟨s1, hs1⟩ : ∃ z, t.f3[k] = z := ⟨_, rfl⟩
        obtain ⟨s2, hs2⟩ : ∃ z, u.f3[k] = z := ⟨_, rfl⟩
        obtain ⟨ad1, hA1, hc1⟩ := Kd.at_string (Kd.C_below HT.out.1.2.2.2.1 HE.out.bel) (k : Int) (by omega) (by omega)
        obtain ⟨ad2, hA2, hc2⟩ := Kd.at_string (Kd.C_below HT.out.2.2.2.2.1 HE.out.bel) (k : Int) (by omega) (by omega)
        rw [rdB' hlt, hs1, Int.toNat_natCast] at hc1
        rw [rdB' hlu, hs2, Int.toNat_natCast] at hc2
        have HS := Aside0.mk (And.intro hs1 hs2)
        clear hs1 hs2
        subst hA1
        subst hA2
        obtain ⟨x0, x1, x2, x3, x4⟩ := cells5 HE.out.ba
        obtain ⟨b0, b1, b2, b3, b4⟩ := cells5 HE.out.bb
        cases he : (s1.toList == s2.toList) with
        | true =>
          go_upto_region 6 with fail
          go_quiet (fail)
          have HE := Aside0.mk (HE.out.step (pw_below_drewN (Below.refl _ wr) nq))
          clear hc1 hc2 x0 x1 x2 x3 x4 b0 b1 b2 b3 b4
          generalize (wr.drewN nq) = wr at *
          go_wp2_with fail
          refine ⟨⟨k + 1, by go_num, by omega, ⟨?_⟩, HE⟩, by simp [intOf]; omega⟩
          rw [List.take_succ_eq_append_getElem hlt, List.take_succ_eq_append_getElem hlu, HP.out, HS.out.1, HS.out.2, (ba_eq.1 (by simpa using he) : s1 = s2)]
        | false =>
          have HNE : Aside0 (eqT t u = false) := ⟨eqT_false (fun e => by
            have h8 : s1 = s2 := by rw [← HS.out.1, ← HS.out.2]; simp only [e]
            rw [h8] at he
            simp at he)⟩
          go_upto_region 6 with fail
          go_quiet (fail)
          have HE := Aside0.mk (HE.out.step (pw_below_drewN (Below.refl _ wr) nq))
          clear hc1 hc2 x0 x1 x2 x3 x4 b0 b1 b2 b3 b4
          generalize (wr.drewN nq) = wr at *
          go_wp2_with fail
          exact bodyPost_ret (v := .bool false) (by simp [results, Tryd.results14, go_sem]) rfl ⟨by rw [HNE.out], HAA.out ▸ HE.out.bel⟩
      · skip
        have hlt' : ¬ (k : Int) < (t.f3.length : Int) := by omega
        have HNM : Aside0 (t.f3 = u.f3) := ⟨by
          have h8 := HP.out
          rw [List.take_of_length_le (by omega), List.take_of_length_le (by have := H3.out; omega)] at h8
          exact h8⟩
        obtain ⟨x0, x1, x2, x3, x4⟩ := cells5 HE.out.ba
        go_wp2_with fail
        clear x0 x1 x2 x3 x4
        go_loopw [6] (fun v wr => ∃ k : Nat, v = .int .i64 (k : Int) ∧ k ≤ t.f4.length ∧ Aside0 (t.f4.take k = u.f4.take k) ∧ Aside0 (EB w wr a b #[.int .i64 t.f0, .bool t.f1, .slice A2 t.f2.length c2, .slice A3 t.f3.length c3, .slice A4 t.f4.length c4] #[.int .i64 u.f0, .bool u.f1, .slice B2 u.f2.length d2, .slice B3 u.f3.length d3, .slice B4 u.f4.length d4])) (fun v _ => t.f4.length - (intOf v).toNat)
        case atStart => exact ⟨0, rfl, Nat.zero_le _, ⟨rfl⟩, HE⟩
        case round =>
          clear HE HP
          obtain ⟨k, rfl, hk9, HP, HE⟩ := hrel
          obtain ⟨x0, x1, x2, x3, x4⟩ := cells5 HE.out.ba
          obtain ⟨b0, b1, b2, b3, b4⟩ := cells5 HE.out.bb
          by_cases hlt : k < t.f4.length
          · skip
            have hlu : k < u.f4.length := by rw [← H4.out]; exact hlt
            have hlt' : (k : Int) < (t.f4.length : Int) := by omega
            have hlu' : (k : Int) < (u.f4.length : Int) := by omega
            obtain ⟨adp, P2, p2, P3, p3, P4, p4, hAp, e0, e1, e2_, e3_, e4_, r1, r2, r3, r4, r5, r6⟩ := at_T26 (Kd.C_below HT.out.1.2.2.2.2.2 HE.out.bel) (k : Int) (by omega) (by omega)
            obtain ⟨p, hp⟩ : ∃ x, rd_T26 t.f4 (k : Int) = x := ⟨_, rfl⟩
            have hpe : t.f4[k] = p := by rw [← hp, rdT' hlt]
            rw [hp] at e0 e1 e2_ e3_ e4_ r1 r2 r3 r4 r5 r6
            rw [Int.toNat_natCast] at e0 e1 e2_ e3_ e4_
            have HTp : Aside0 (TR wr p P2 p2 P3 p3 P4 p4) := ⟨⟨r1, r2, r3, r4, r5, r6⟩⟩
            have HEp := Aside0.mk hpe
            have HGp : Aside0 (GT N p) := ⟨hpe ▸ HG.out.1.2.2.2.2.2 _ (List.getElem_mem hlt)⟩
            subst hAp
            clear hp hpe r1 r2 r3 r4 r5 r6
            obtain ⟨adq, Q2, q2, Q3, q3, Q4, q4, hAq, f0, f1, f2_, f3_, f4_, s1, s2, s3, s4, s5, s6⟩ := at_T26 (Kd.C_below HT.out.2.2.2.2.2.2 HE.out.bel) (k : Int) (by omega) (by omega)
            obtain ⟨q, hq⟩ : ∃ x, rd_T26 u.f4 (k : Int) = x := ⟨_, rfl⟩
            have hqe : u.f4[k] = q := by rw [← hq, rdT' hlu]
            rw [hq] at f0 f1 f2_ f3_ f4_ s1 s2 s3 s4 s5 s6
            rw [Int.toNat_natCast] at f0 f1 f2_ f3_ f4_
            have HTq : Aside0 (TR wr q Q2 q2 Q3 q3 Q4 q4) := ⟨⟨s1, s2, s3, s4, s5, s6⟩⟩
            have HEq := Aside0.mk hqe
            have HGq : Aside0 (GT M q) := ⟨hqe ▸ HG.out.2.2.2.2.2.2 _ (List.getElem_mem hlu)⟩
            subst hAq
            clear hq hqe s1 s2 s3 s4 s5 s6
            go_upto_region 11 with fail
            refine start_ (n := 12) (S := fun w' => w'.cell? ⟨a, 4, none⟩ = some (.slice (some adp) t.f4.length c4) ∧ w'.cell? ⟨b, 4, none⟩ = some (.slice (some adq) u.f4.length d4) ∧ w'.cell? (adp.add (k * 5)) = some (.int .i64 p.f0) ∧ w'.cell? ⟨(adp.add (k * 5)).block, (adp.add (k * 5)).off + 1, none⟩ = some (.bool p.f1) ∧ w'.cell? ⟨(adp.add (k * 5)).block, (adp.add (k * 5)).off + 2, none⟩ = some (.slice P2 p.f2.length p2) ∧ w'.cell? ⟨(adp.add (k * 5)).block, (adp.add (k * 5)).off + 3, none⟩ = some (.slice P3 p.f3.length p3) ∧ w'.cell? ⟨(adp.add (k * 5)).block, (adp.add (k * 5)).off + 4, none⟩ = some (.slice P4 p.f4.length p4) ∧ w'.cell? (adq.add (k * 5)) = some (.int .i64 q.f0) ∧ w'.cell? ⟨(adq.add (k * 5)).block, (adq.add (k * 5)).off + 1, none⟩ = some (.bool q.f1) ∧ w'.cell? ⟨(adq.add (k * 5)).block, (adq.add (k * 5)).off + 2, none⟩ = some (.slice Q2 q.f2.length q2) ∧ w'.cell? ⟨(adq.add (k * 5)).block, (adq.add (k * 5)).off + 3, none⟩ = some (.slice Q3 q.f3.length q3) ∧ w'.cell? ⟨(adq.add (k * 5)).block, (adq.add (k * 5)).off + 4, none⟩ = some (.slice Q4 q.f4.length q4)) (ds := []) #[false, false, false, false, false, false, false, false, false, false, false, false] (by kernel_rfl) rfl rfl ⟨x4, b4, e0, e1, e2_, e3_, e4_, f0, f1, f2_, f3_, f4_⟩ (fun hHeld => ?_)
            have hdr := below_drew (Below.refl wr.heap.size wr)
            have HE := Aside0.mk (HE.out.step hdr)
            have HTp := Aside0.mk (HTp.out.below hdr)
            have HTq := Aside0.mk (HTq.out.below hdr)
            clear hdr e0 e1 e2_ e3_ e4_ f0 f1 f2_ f3_ f4_ x0 x1 x2 x3 x4 b0 b1 b2 b3 b4
            generalize wr.drew = wr at *
            refine pure_ (i := 0) (N := some 71) (v := ?_) (a' := ?_) #[true, false, false, false, false, false, false, false, false, false, false, false] rfl rfl (by kernel_rfl) (fun _ _ _ h => h) (Or.inl ⟨by rfl, ?_⟩) ?_ ?_
            rotate_left
            · intro w'
              go_simp
              with_reducible rfl
            rotate_left
            · simp only [Act.put, List.setIfInBounds_toArray, List.set_cons_zero, List.set_cons_succ]
              rfl
            refine pure_ (i := 2) (N := some 73) (v := ?_) (a' := ?_) #[true, false, true, false, false, false, false, false, false, false, false, false] rfl rfl (by kernel_rfl) (fun _ _ _ h => h) (Or.inl ⟨by rfl, ?_⟩) ?_ ?_
            rotate_left
            · intro w'
              go_simp
              with_reducible rfl
            rotate_left
            · simp only [Act.put, List.setIfInBounds_toArray, List.set_cons_zero, List.set_cons_succ]
              rfl
            refine pure_ (i := 5) (N := some 76) (v := ?_) (a' := ?_) #[true, false, true, false, false, true, false, false, false, false, false, false] rfl rfl (by kernel_rfl) (fun _ _ _ h => h) (Or.inl ⟨by rfl, ?_⟩) ?_ ?_
            rotate_left
            · intro w'
              go_simp
              with_reducible rfl
            rotate_left
            · simp only [Act.put, List.setIfInBounds_toArray, List.set_cons_zero, List.set_cons_succ]
              rfl
            refine pure_ (i := 7) (N := some 78) (v := ?_) (a' := ?_) #[true, false, true, false, false, true, false, true, false, false, false, false] rfl rfl (by kernel_rfl) (fun _ _ _ h => h) (Or.inl ⟨by rfl, ?_⟩) ?_ ?_
            rotate_left
            · intro w'
              go_simp
              with_reducible rfl
            rotate_left
            · simp only [Act.put, List.setIfInBounds_toArray, List.set_cons_zero, List.set_cons_succ]
              rfl
            refine take_ (i := 1) (N := some 72) (v := ?_) (a' := ?_) #[true, true, true, false, false, true, false, true, false, false, false, false] rfl rfl (by kernel_rfl) (fun _ _ _ h => h) (Or.inl ⟨by rfl, ?_⟩) hHeld ?_ ?_
            rotate_left
            · rintro w' ⟨z0, z1, z2, z3, z4, z5, z6, z7, z8, z9, z10, z11⟩
              go_simp
              with_reducible rfl
            rotate_left
            · simp only [Act.put, List.setIfInBounds_toArray, List.set_cons_zero, List.set_cons_succ]
              rfl
            refine take_ (i := 6) (N := some 77) (v := ?_) (a' := ?_) #[true, true, true, false, false, true, true, true, false, false, false, false] rfl rfl (by kernel_rfl) (fun _ _ _ h => h) (Or.inl ⟨by rfl, ?_⟩) hHeld ?_ ?_
            rotate_left
            · rintro w' ⟨z0, z1, z2, z3, z4, z5, z6, z7, z8, z9, z10, z11⟩
              go_simp
              with_reducible rfl
            rotate_left
            · simp only [Act.put, List.setIfInBounds_toArray, List.set_cons_zero, List.set_cons_succ]
              rfl
            refine pure_ (i := 3) (N := some 74) (v := ?_) (a' := ?_) #[true, true, true, true, false, true, true, true, false, false, false, false] rfl rfl (by kernel_rfl) (fun _ _ _ h => h) (Or.inl ⟨by rfl, ?_⟩) ?_ ?_
            rotate_left
            · intro w'
              go_simp
              with_reducible rfl
            rotate_left
            · simp only [Act.put, List.setIfInBounds_toArray, List.set_cons_zero, List.set_cons_succ]
              rfl
            refine pure_ (i := 8) (N := some 79) (v := ?_) (a' := ?_) #[true, true, true, true, false, true, true, true, true, false, false, false] rfl rfl (by kernel_rfl) (fun _ _ _ h => h) (Or.inl ⟨by rfl, ?_⟩) ?_ ?_
            rotate_left
            · intro w'
              go_simp
              with_reducible rfl
            rotate_left
            · simp only [Act.put, List.setIfInBounds_toArray, List.set_cons_zero, List.set_cons_succ]
              rfl
            refine take_ (i := 4) (N := some 75) (v := ?_) (a' := ?_) #[true, true, true, true, true, true, true, true, true, false, false, false] rfl rfl (by kernel_rfl) (fun _ _ _ h => h) (Or.inl ⟨by rfl, ?_⟩) hHeld ?_ ?_
            rotate_left
            · rintro w' ⟨z0, z1, z2, z3, z4, z5, z6, z7, z8, z9, z10, z11⟩
              go_simp
              with_reducible rfl
            rotate_left
            · simp only [Act.put, List.setIfInBounds_toArray, List.set_cons_zero, List.set_cons_succ]
              rfl
            refine take_ (i := 9) (N := some 80) (v := ?_) (a' := ?_) #[true, true, true, true, true, true, true, true, true, true, false, false] rfl rfl (by kernel_rfl) (fun _ _ _ h => h) (Or.inl ⟨by rfl, ?_⟩) hHeld ?_ ?_
            rotate_left
            · rintro w' ⟨z0, z1, z2, z3, z4, z5, z6, z7, z8, z9, z10, z11⟩
              go_simp
              with_reducible rfl
            rotate_left
            · simp only [Act.put, List.setIfInBounds_toArray, List.set_cons_zero, List.set_cons_succ]
              rfl
            obtain ⟨bb, hbb⟩ : ∃ z, eqT p q = z := ⟨_, rfl⟩
            have HBB := Aside0.mk hbb
            clear hbb
            refine one_ (i := 10) (N := some 81) #[true, true, true, true, true, true, true, true, true, true, true, false] rfl rfl (by kernel_rfl) (by decide) (fun K hK => ?_)
            go_simp
            refine (IH.out M p P2 p2 P3 p3 P4 p4 q Q2 q2 Q3 q3 Q4 q4 wr HTp.out HTq.out HGp.out HGq.out).mono ?_
            rw [HBB.out]
            rintro e_ w9 ⟨rfl, hb⟩
            have HE := Aside0.mk (HE.out.step hb)
            have hS := hHeld
            obtain ⟨z0_, z1, z2, z3, z4, z5, z6, z7, z8, z9, z10, z11⟩ := hS
            refine hK.out _ _ ⟨pw_cell_below hb z0_, pw_cell_below hb z1, pw_cell_below hb z2, pw_cell_below hb z3, pw_cell_below hb z4, pw_cell_below hb z5, pw_cell_below hb z6, pw_cell_below hb z7, pw_cell_below hb z8, pw_cell_below hb z9, pw_cell_below hb z10, pw_cell_below hb z11⟩ (fun hHeld => ?_)
            clear hK K
            clear z0_ z1 z2 z3 z4 z5 z6 z7 z8 z9 z10 z11 hb
            refine pure_ (i := 11) (N := some 82) (v := ?_) (a' := ?_) #[true, true, true, true, true, true, true, true, true, true, true, true] rfl rfl (by kernel_rfl) (fun _ _ _ h => h) (Or.inl ⟨by rfl, ?_⟩) ?_ ?_
            rotate_left
            · intro w'
              go_simp
              with_reducible rfl
            rotate_left
            · simp only [Act.put, List.setIfInBounds_toArray, List.set_cons_zero, List.set_cons_succ]
              rfl
            refine done_ (by kernel_rfl) ?_
            clear hHeld
            cases bb with
            | true =>
              go_wp2_with fail
              refine ⟨⟨k + 1, by go_num, by omega, ⟨?_⟩, HE⟩, by simp [intOf]; omega⟩
              rw [List.take_succ_eq_append_getElem hlt, List.take_succ_eq_append_getElem hlu, HP.out, HEp.out, HEq.out, eqT_iff.1 HBB.out]
            | false =>
              have HNE : Aside0 (eqT t u = false) := ⟨eqT_false (fun e => by
                have h8 : p = q := by rw [← HEp.out, ← HEq.out]; simp only [e]
                have := HBB.out
                rw [eqT_true h8] at this
                cases this)⟩
              go_wp2_with fail
              exact bodyPost_ret (v := .bool false) (by simp [results, Tryd.results14, go_sem]) rfl ⟨by rw [HNE.out], HAA.out ▸ HE.out.bel⟩
          · skip
            have hlt' : ¬ (k : Int) < (t.f4.length : Int) := by omega
            have HEQ : Aside0 (eqT t u = true) := ⟨eqT_true (by
              have h8 := HP.out
              rw [List.take_of_length_le (by omega), List.take_of_length_le (by have := H4.out; omega)] at h8
              have h0 := H0.out
              have h1 := H1.out
              have h2 := H2.out
              have h3 := HNM.out
              cases t; cases u
              simp_all)⟩
            go_wp2_with fail
            exact bodyPost_ret (v := .bool true) (by simp [results, Tryd.results14, go_sem]) rfl ⟨by rw [HEQ.out], HAA.out ▸ HE.out.bel⟩
theorem equal_all : ∀ N, CE N := by
  intro N
  induction N with
  | zero => intro M t A2 c2 A3 c3 A4 c4 u B2 d2 B3 d3 B4 d4 w ht hu hG; exact hG.elim
  | succ N ih => exact equal_step N ih
theorem Equal_any (N M : Nat) (t u : S26) (A2 : Option Addr) (c2 : Nat) (A3 : Option Addr) (c3 : Nat) (A4 : Option Addr) (c4 : Nat) (B2 : Option Addr) (d2 : Nat) (B3 : Option Addr) (d3 : Nat) (B4 : Option Addr) (d4 : Nat) (w : World) (h : TR w t A2 c2 A3 c3 A4 c4) (h2 : TR w u B2 d2 B3 d3 B4 d4) (hG : GT N t) (hG2 : GT M u) :
    Calls Tryd.prog 14 #[TV t A2 c2 A3 c3 A4 c4, TV u B2 d2 B3 d3 B4 d4] w fun e w' => e = .returned (.bool (eqT t u)) ∧ Below w.heap.size w w' :=
  equal_all N M t A2 c2 A3 c3 A4 c4 u B2 d2 B3 d3 B4 d4 w h h2 hG hG2
end Go.Proofs.YtfnofjcdaghniaaDoor.Tree
