/- TreeChecks, walked. Own work; printed by gen_tc.py. -/
import Derived.Test.YtfnofjcdaghniaaDoorKnJ
import Derived.Test.YtfnofjcdaghniaaDoorRfQ
namespace Go.Proofs.YtfnofjcdaghniaaDoor.Tree
set_option linter.unusedVariables false
set_option linter.unusedSimpArgs false
open Go.RowKit Go.Proofs.YtfnofjcdaghniaaDoor.PL Go.Proofs.YtfnofjcdaghniaaDoor.Mt Go.Proofs.YtfnofjcdaghniaaDoorW.PrintWords Go.Proofs.YtfnofjcdaghniaaDoorW.PrintLast Go.Proofs.YtfnofjcdaghniaaDoorW.PrintMore
/-- what region 4 keeps -/
structure St (w wr : World) (pp qq : Nat) (t : S26) (A2 : Option Addr) (c2 : Nat) (A3 : Option Addr) (c3 : Nat) (A4 : Option Addr) (c4 : Nat) (B2 : Option Addr) (d2 : Nat) (B3 : Option Addr) (d3 : Nat) (B4 : Option Addr) (d4 : Nat) : Prop where
  bel : Below pp w wr
  tr : TR wr t A2 c2 A3 c3 A4 c4
  g0 : G0 wr
  xr : TR wr t B2 d2 B3 d3 B4 d4
  bp : wr.heap[pp]? = some (.cells #[.int .i64 t.f0, .bool t.f1, .slice A2 t.f2.length c2, .slice A3 t.f3.length c3, .slice A4 t.f4.length c4] 26)
  bq : wr.heap[qq]? = some (.cells #[.int .i64 t.f0, .bool t.f1, .slice B2 t.f2.length d2, .slice B3 t.f3.length d3, .slice B4 t.f4.length d4] 26)
theorem St.step {w wr w2 : World} {pp qq : Nat} {t : S26} {A2 : Option Addr} {c2 : Nat} {A3 : Option Addr} {c3 : Nat} {A4 : Option Addr} {c4 : Nat} {B2 : Option Addr} {d2 : Nat} {B3 : Option Addr} {d3 : Nat} {B4 : Option Addr} {d4 : Nat} (h : St w wr pp qq t A2 c2 A3 c3 A4 c4 B2 d2 B3 d3 B4 d4) (hb : Below wr.heap.size wr w2) : St w w2 pp qq t A2 c2 A3 c3 A4 c4 B2 d2 B3 d3 B4 d4 :=
  ⟨below_then h.bel (Nat.le_of_lt (blk_lt h.bp)) hb, h.tr.below hb, h.g0.below hb, h.xr.below hb, (hb.block _ (blk_lt h.bp)).trans h.bp, (hb.block _ (blk_lt h.bq)).trans h.bq⟩
set_option maxRecDepth 20000 in
set_option maxHeartbeats 4000000 in
theorem TreeChecks_any (N : Nat) (t : S26) (A2 : Option Addr) (c2 : Nat) (A3 : Option Addr) (c3 : Nat) (A4 : Option Addr) (c4 : Nat) (w : World) (ht : TR w t A2 c2 A3 c3 A4 c4) (hG : GT N t) (hg : G0 w) :
    Calls Tryd.prog 3 #[TV t A2 c2 A3 c3 A4 c4] w fun e w' => e = .returned (.bool true) ∧ Below w.heap.size w w' := by
  have hb1 := below_alloc (Below.refl w.heap.size w) (.cells #[.int .i64 t.f0, .bool t.f1, .slice A2 t.f2.length c2, .slice A3 t.f3.length c3, .slice A4 t.f4.length c4] 26)
  have HT := Aside0.mk (ht.below hb1)
  have HG0 := Aside0.mk (hg.below hb1)
  have HB := Aside0.mk hb1
  have HP := Aside0.mk (heap_alloc_new w (.cells #[.int .i64 t.f0, .bool t.f1, .slice A2 t.f2.length c2, .slice A3 t.f3.length c3, .slice A4 t.f4.length c4] 26))
  have HG := Aside0.mk hG
  clear ht hG hg hb1
  go_enter Tryd.func3, Tryd.ntmps3
  go_upto_region 1 with fail
  generalize (w.alloc (.cells #[.int .i64 t.f0, .bool t.f1, .slice A2 t.f2.length c2, .slice A3 t.f3.length c3, .slice A4 t.f4.length c4] 26)) = w1 at *
  obtain ⟨pp, hpp⟩ : ∃ q, w.heap.size = q := ⟨_, rfl⟩
  rw [hpp] at HP ⊢
  have HPP := Aside0.mk hpp
  rw [hpp] at HB
  clear hpp
  obtain ⟨x0, x1, x2, x3, x4⟩ := cells5 HP.out
  have hal := below_alloc (Below.refl w1.heap.size w1) (.cells #[.int .i64 t.f0, .bool t.f1, .slice A2 t.f2.length c2, .slice A3 t.f3.length c3, .slice A4 t.f4.length c4] 26)
  have HB2 := Aside0.mk (below_then HB.out (by rw [← HPP.out]; exact (HPP.out ▸ HB.out : Below w.heap.size w w1).size) hal)
  have HT2 := Aside0.mk (HT.out.below hal)
  have HG2 := Aside0.mk (HG0.out.below hal)
  have HP2 := Aside0.mk (blk_alloc HP.out (.cells #[.int .i64 t.f0, .bool t.f1, .slice A2 t.f2.length c2, .slice A3 t.f3.length c3, .slice A4 t.f4.length c4] 26))
  have HA2 := Aside0.mk (heap_alloc_new w1 (.cells #[.int .i64 t.f0, .bool t.f1, .slice A2 t.f2.length c2, .slice A3 t.f3.length c3, .slice A4 t.f4.length c4] 26))
  clear hal
  go_wp2_with fail
  clear x0 x1 x2 x3 x4 HB HT HG0 HP
  generalize (w1.alloc (.cells #[.int .i64 t.f0, .bool t.f1, .slice A2 t.f2.length c2, .slice A3 t.f3.length c3, .slice A4 t.f4.length c4] 26)) = w2 at *
  refine (heavy_any N [t] (some ⟨w1.heap.size, 0, none⟩) 1 w2 (one_C HA2.out HT2.out) (by intro u hu; simp at hu; subst hu; exact HG.out) (by simp)).mono ?_
  rintro e w3 ⟨hv, rfl, hb, -⟩
  have HSZ : Aside0 (pp ≤ w2.heap.size) := ⟨Nat.le_of_lt (blk_lt HP2.out)⟩
  have HB3 := Aside0.mk (below_then HB2.out HSZ.out hb)
  have HT3 := Aside0.mk (HT2.out.below hb)
  have HG3 := Aside0.mk (HG2.out.below hb)
  have HP3 := Aside0.mk ((hb.block _ (blk_lt HP2.out)).trans HP2.out)
  clear hb HB2 HT2 HG2 HP2 HA2 HSZ
  cases hv with
  | true =>
    go_wp2_with fail
    exact bodyPost_ret (v := .bool true) (by simp [results, Tryd.results3, go_sem]) rfl ⟨rfl, HPP.out ▸ HB3.out⟩
  | false =>
    obtain ⟨x0, x1, x2, x3, x4⟩ := cells5 HP3.out
    go_wp2_with fail
    clear x0 x1 x2 x3 x4
    refine (Clone_any N t A2 c2 A3 c3 A4 c4 w3 HT3.out HG.out).mono ?_
    rintro e w4 ⟨B2, d2, B3, d3, B4, d4, rfl, ho, hx, hb⟩
    simp only [TV]
    have hal := below_alloc (Below.refl w4.heap.size w4) (.cells #[.int .i64 t.f0, .bool t.f1, .slice B2 t.f2.length d2, .slice B3 t.f3.length d3, .slice B4 t.f4.length d4] 26)
    have hb5 := below_then hb hb.size hal
    have HSZ : Aside0 (pp ≤ w3.heap.size) := ⟨Nat.le_of_lt (blk_lt HP3.out)⟩
    have HB5 := Aside0.mk (below_then HB3.out HSZ.out hb5)
    have HT5 := Aside0.mk (HT3.out.below hb5)
    have HG5 := Aside0.mk (HG3.out.below hb5)
    have HP5 := Aside0.mk ((hb5.block _ (blk_lt HP3.out)).trans HP3.out)
    have HX5 := Aside0.mk (hx.below hal)
    have HQ5 := Aside0.mk (heap_alloc_new w4 (.cells #[.int .i64 t.f0, .bool t.f1, .slice B2 t.f2.length d2, .slice B3 t.f3.length d3, .slice B4 t.f4.length d4] 26))
    clear hal hb5 hb ho hx HB3 HT3 HG3 HP3 HSZ
    go_upto_region 4 with fail
    generalize (w4.alloc (.cells #[.int .i64 t.f0, .bool t.f1, .slice B2 t.f2.length d2, .slice B3 t.f3.length d3, .slice B4 t.f4.length d4] 26)) = w5 at *
    obtain ⟨qq, hqq⟩ : ∃ q, w4.heap.size = q := ⟨_, rfl⟩
    rw [hqq] at HQ5 ⊢
    clear hqq
    have hdr := below_drew (Below.refl w5.heap.size w5)
    have HSZ : Aside0 (pp ≤ w5.heap.size) := ⟨Nat.le_of_lt (blk_lt HP5.out)⟩
    have HS := Aside0.mk (St.mk (pp := pp) (below_then HB5.out HSZ.out hdr) (HT5.out.below hdr) (HG5.out.below hdr) (HX5.out.below hdr) ((hdr.block _ (blk_lt HP5.out)).trans HP5.out) ((hdr.block _ (blk_lt HQ5.out)).trans HQ5.out))
    clear HB5 HT5 HG5 HP5 HX5 HQ5 hdr HSZ
    refine start_ (n := 14) (S := fun w' => w'.cell? ⟨qq, 0, none⟩ = some (.int .i64 t.f0) ∧ w'.cell? ⟨qq, 1, none⟩ = some (.bool t.f1) ∧ w'.cell? ⟨qq, 2, none⟩ = some (.slice B2 t.f2.length d2) ∧ w'.cell? ⟨qq, 3, none⟩ = some (.slice B3 t.f3.length d3) ∧ w'.cell? ⟨qq, 4, none⟩ = some (.slice B4 t.f4.length d4) ∧ w'.cell? ⟨pp, 0, none⟩ = some (.int .i64 t.f0) ∧ w'.cell? ⟨pp, 1, none⟩ = some (.bool t.f1) ∧ w'.cell? ⟨pp, 2, none⟩ = some (.slice A2 t.f2.length c2) ∧ w'.cell? ⟨pp, 3, none⟩ = some (.slice A3 t.f3.length c3) ∧ w'.cell? ⟨pp, 4, none⟩ = some (.slice A4 t.f4.length c4)) (ds := []) #[false, false, false, false, false, false, false, false, false, false, false, false, false, false] (by kernel_rfl) rfl rfl ⟨(blk_cell HS.out.bq 0).trans rfl, (blk_cell HS.out.bq 1).trans rfl, (blk_cell HS.out.bq 2).trans rfl, (blk_cell HS.out.bq 3).trans rfl, (blk_cell HS.out.bq 4).trans rfl, (blk_cell HS.out.bp 0).trans rfl, (blk_cell HS.out.bp 1).trans rfl, (blk_cell HS.out.bp 2).trans rfl, (blk_cell HS.out.bp 3).trans rfl, (blk_cell HS.out.bp 4).trans rfl⟩ (fun hHeld => ?_)
    generalize w5.drew = w6 at *
    refine take_ (i := 0) (N := some 9) (v := ?_) (a' := ?_) #[true, false, false, false, false, false, false, false, false, false, false, false, false, false] rfl rfl (by kernel_rfl) (fun _ _ _ h => h) (Or.inl ⟨by rfl, ?_⟩) hHeld ?_ ?_
    rotate_left
    · rintro w' ⟨s0, s1, s2, s3, s4, s5, s6, s7, s8, s9⟩
      go_simp
      with_reducible rfl
    rotate_left
    · simp only [Act.put, List.setIfInBounds_toArray, List.set_cons_zero, List.set_cons_succ]
      rfl
    refine take_ (i := 2) (N := some 11) (v := ?_) (a' := ?_) #[true, false, true, false, false, false, false, false, false, false, false, false, false, false] rfl rfl (by kernel_rfl) (fun _ _ _ h => h) (Or.inl ⟨by rfl, ?_⟩) hHeld ?_ ?_
    rotate_left
    · rintro w' ⟨s0, s1, s2, s3, s4, s5, s6, s7, s8, s9⟩
      go_simp
      with_reducible rfl
    rotate_left
    · simp only [Act.put, List.setIfInBounds_toArray, List.set_cons_zero, List.set_cons_succ]
      rfl
    obtain ⟨k, hk⟩ : ∃ q, (chk N t 1 0).1 = q := ⟨_, rfl⟩
    have HK := Aside0.mk hk
    clear hk
    refine one_ (i := 1) (N := some 10) #[true, true, true, false, false, false, false, false, false, false, false, false, false, false] rfl rfl (by kernel_rfl) (by decide) (fun K hK => ?_)
    go_simp
    refine (Check_any N t B2 d2 B3 d3 B4 d4 w6 HS.out.xr HG.out).mono ?_
    rintro e w7 ⟨rfl, hb⟩
    have HS := Aside0.mk (HS.out.step hb)
    clear hb
    rw [HK.out]
    refine hK.out _ _ ⟨(blk_cell HS.out.bq 0).trans rfl, (blk_cell HS.out.bq 1).trans rfl, (blk_cell HS.out.bq 2).trans rfl, (blk_cell HS.out.bq 3).trans rfl, (blk_cell HS.out.bq 4).trans rfl, (blk_cell HS.out.bp 0).trans rfl, (blk_cell HS.out.bp 1).trans rfl, (blk_cell HS.out.bp 2).trans rfl, (blk_cell HS.out.bp 3).trans rfl, (blk_cell HS.out.bp 4).trans rfl⟩ (fun hHeld => ?_)
    clear hK K
    refine one_ (i := 3) (N := some 12) #[true, true, true, true, false, false, false, false, false, false, false, false, false, false] rfl rfl (by kernel_rfl) (by decide) (fun K hK => ?_)
    go_simp
    refine (RCheck_any N t A2 c2 A3 c3 A4 c4 w7 HS.out.tr HG.out).mono ?_
    rintro e w8 ⟨rfl, hb⟩
    have HS := Aside0.mk (HS.out.step hb)
    clear hb
    rw [HK.out]
    refine hK.out _ _ ⟨(blk_cell HS.out.bq 0).trans rfl, (blk_cell HS.out.bq 1).trans rfl, (blk_cell HS.out.bq 2).trans rfl, (blk_cell HS.out.bq 3).trans rfl, (blk_cell HS.out.bq 4).trans rfl, (blk_cell HS.out.bp 0).trans rfl, (blk_cell HS.out.bp 1).trans rfl, (blk_cell HS.out.bp 2).trans rfl, (blk_cell HS.out.bp 3).trans rfl, (blk_cell HS.out.bp 4).trans rfl⟩ (fun hHeld => ?_)
    clear hK K
    refine pure_ (i := 4) (N := some 13) (v := ?_) (a' := ?_) #[true, true, true, true, true, false, false, false, false, false, false, false, false, false] rfl rfl (by kernel_rfl) (fun _ _ _ h => h) (Or.inl ⟨by rfl, ?_⟩) ?_ ?_
    rotate_left
    · intro w'
      go_simp
      with_reducible rfl
    rotate_left
    · simp only [Act.put, List.setIfInBounds_toArray, List.set_cons_zero, List.set_cons_succ]
      rfl
    refine pure_ (i := 5) (N := some 14) (v := ?_) (a' := ?_) #[true, true, true, true, true, true, false, false, false, false, false, false, false, false] rfl rfl (by kernel_rfl) (fun _ _ _ h => h) (Or.inl ⟨by rfl, ?_⟩) ?_ ?_
    rotate_left
    · intro w'
      go_simp
      with_reducible rfl
    rotate_left
    · simp only [Act.put, List.setIfInBounds_toArray, List.set_cons_zero, List.set_cons_succ]
      rfl
    refine take_ (i := 6) (N := some 15) (v := ?_) (a' := ?_) #[true, true, true, true, true, true, true, false, false, false, false, false, false, false] rfl rfl (by kernel_rfl) (fun _ _ _ h => h) (Or.inl ⟨by rfl, ?_⟩) hHeld ?_ ?_
    rotate_left
    · rintro w' ⟨s0, s1, s2, s3, s4, s5, s6, s7, s8, s9⟩
      go_simp
      with_reducible rfl
    rotate_left
    · simp only [Act.put, List.setIfInBounds_toArray, List.set_cons_zero, List.set_cons_succ]
      rfl
    refine take_ (i := 7) (N := some 16) (v := ?_) (a' := ?_) #[true, true, true, true, true, true, true, true, false, false, false, false, false, false] rfl rfl (by kernel_rfl) (fun _ _ _ h => h) (Or.inl ⟨by rfl, ?_⟩) hHeld ?_ ?_
    rotate_left
    · rintro w' ⟨s0, s1, s2, s3, s4, s5, s6, s7, s8, s9⟩
      go_simp
      with_reducible rfl
    rotate_left
    · simp only [Act.put, List.setIfInBounds_toArray, List.set_cons_zero, List.set_cons_succ]
      rfl
    refine one_ (i := 8) (N := some 17) #[true, true, true, true, true, true, true, true, true, false, false, false, false, false] rfl rfl (by kernel_rfl) (by decide) (fun K hK => ?_)
    go_simp
    refine (Equal_any N N t t B2 d2 B3 d3 B4 d4 A2 c2 A3 c3 A4 c4 w8 HS.out.xr HS.out.tr HG.out HG.out).mono ?_
    rintro e w9 ⟨rfl, hb⟩
    have HS := Aside0.mk (HS.out.step hb)
    clear hb
    rw [eqT_true rfl]
    refine hK.out _ _ ⟨(blk_cell HS.out.bq 0).trans rfl, (blk_cell HS.out.bq 1).trans rfl, (blk_cell HS.out.bq 2).trans rfl, (blk_cell HS.out.bq 3).trans rfl, (blk_cell HS.out.bq 4).trans rfl, (blk_cell HS.out.bp 0).trans rfl, (blk_cell HS.out.bp 1).trans rfl, (blk_cell HS.out.bp 2).trans rfl, (blk_cell HS.out.bp 3).trans rfl, (blk_cell HS.out.bp 4).trans rfl⟩ (fun hHeld => ?_)
    clear hK K
    refine pure_ (i := 9) (N := some 18) (v := ?_) (a' := ?_) #[true, true, true, true, true, true, true, true, true, true, false, false, false, false] rfl rfl (by kernel_rfl) (fun _ _ _ h => h) (Or.inl ⟨by rfl, ?_⟩) ?_ ?_
    rotate_left
    · intro w'
      go_simp
      with_reducible rfl
    rotate_left
    · simp only [Act.put, List.setIfInBounds_toArray, List.set_cons_zero, List.set_cons_succ]
      rfl
    refine pure_ (i := 10) (N := some 19) (v := ?_) (a' := ?_) #[true, true, true, true, true, true, true, true, true, true, true, false, false, false] rfl rfl (by kernel_rfl) (fun _ _ _ h => h) (Or.inl ⟨by rfl, ?_⟩) ?_ ?_
    rotate_left
    · intro w'
      go_simp
      with_reducible rfl
    rotate_left
    · simp only [Act.put, List.setIfInBounds_toArray, List.set_cons_zero, List.set_cons_succ]
      rfl
    refine one_ (i := 11) (N := some 20) #[true, true, true, true, true, true, true, true, true, true, true, true, false, false] rfl rfl (by kernel_rfl) (by decide) (fun K hK => ?_)
    go_simp
    refine (known_any w9 HS.out.g0).mono ?_
    rintro e w10 ⟨rfl, hb⟩
    have HS := Aside0.mk (HS.out.step hb)
    clear hb
    refine hK.out _ _ ⟨(blk_cell HS.out.bq 0).trans rfl, (blk_cell HS.out.bq 1).trans rfl, (blk_cell HS.out.bq 2).trans rfl, (blk_cell HS.out.bq 3).trans rfl, (blk_cell HS.out.bq 4).trans rfl, (blk_cell HS.out.bp 0).trans rfl, (blk_cell HS.out.bp 1).trans rfl, (blk_cell HS.out.bp 2).trans rfl, (blk_cell HS.out.bp 3).trans rfl, (blk_cell HS.out.bp 4).trans rfl⟩ (fun hHeld => ?_)
    clear hK K
    refine pure_ (i := 12) (N := some 21) (v := ?_) (a' := ?_) #[true, true, true, true, true, true, true, true, true, true, true, true, true, false] rfl rfl (by kernel_rfl) (fun _ _ _ h => h) (Or.inl ⟨by rfl, ?_⟩) ?_ ?_
    rotate_left
    · intro w'
      go_simp
      with_reducible rfl
    rotate_left
    · simp only [Act.put, List.setIfInBounds_toArray, List.set_cons_zero, List.set_cons_succ]
      rfl
    refine pure_ (i := 13) (N := some 2) (v := ?_) (a' := ?_) #[true, true, true, true, true, true, true, true, true, true, true, true, true, true] rfl rfl (by kernel_rfl) (fun _ _ _ h => h) (Or.inl ⟨by rfl, ?_⟩) ?_ ?_
    rotate_left
    · intro w'
      go_simp
      with_reducible rfl
    rotate_left
    · simp only [Act.put, List.setIfInBounds_toArray, List.set_cons_zero, List.set_cons_succ]
      rfl
    refine done_ (by kernel_rfl) ?_
    go_wp2_with fail
    exact bodyPost_ret (v := .bool true) (by simp [results, Tryd.results3, go_sem]) rfl ⟨rfl, HPP.out ▸ HS.out.bel⟩
theorem TreeChecks_row (N : Nat) (t : S26) (A2 : Option Addr) (c2 : Nat) (A3 : Option Addr) (c3 : Nat) (A4 : Option Addr) (c4 : Nat) (w : World) (ht : TR w t A2 c2 A3 c3 A4 c4) (hG : GT N t) (hg : G0 w) :
    Calls Tryd.prog 3 #[TV t A2 c2 A3 c3 A4 c4] w fun e w' => e = .returned (.bool true) ∧ Below w.heap.size w w' := TreeChecks_any N t A2 c2 A3 c3 A4 c4 w ht hG hg
end Go.Proofs.YtfnofjcdaghniaaDoor.Tree
