/- TreeElse, walked. Own work; printed by gen_el.py. -/
import Derived.Test.YtfnofjcdaghniaaDoorRaJ
namespace Go.Proofs.YtfnofjcdaghniaaDoor.Tree
set_option linter.unusedVariables false
set_option linter.unusedSimpArgs false
open Go.RowKit Go.Proofs.YtfnofjcdaghniaaDoor.PL Go.Proofs.YtfnofjcdaghniaaDoor.Mt Go.Proofs.YtfnofjcdaghniaaDoorW.PrintWords Go.Proofs.YtfnofjcdaghniaaDoorW.PrintLast Go.Proofs.YtfnofjcdaghniaaDoorW.PrintMore
theorem parts_len (s : ByteArray) : (partsS s).length ≤ s.size + 1 := by
  by_cases h : s.size = 0
  · unfold partsS; rw [if_pos h]; simp
  · rw [← List.length_map (f := fun b : ByteArray => b.data.toList), parts_scan h, ← size_data]
    have key : ∀ (L acc : List UInt8), (scanL L acc).length ≤ L.length + 1 := by
      intro L
      induction L with
      | nil => intro acc; simp [scanL]
      | cons c r ih =>
        intro acc
        rw [scanL]
        split
        · have := ih []; simp only [List.length_cons]; omega
        · have := ih (acc ++ [c]); simp only [List.length_cons]; omega
    exact key _ _
theorem texts_quiet {l m : List ByteArray} (A0 : Option Addr) (c0 : Nat) (A1 : Option Addr) (c1 : Nat) (n : Nat) (w : World) (h0 : Kd.string.C w A0 l.length l) (hc0 : l.length ≤ c0) (h1 : Kd.string.C w A1 m.length m) (hc1 : m.length ≤ c1) (hn : n ≤ l.length) (hm : n ≤ m.length) (hl : n ≤ 1000000) (k : Nat) :
    Calls Tryd.prog 24 #[.slice A0 n c0, .slice A1 n c1] (w.drewN k) fun e w' => e = .returned (.bool (decide (l.take n = m.take n))) ∧ ∃ q, w' = w.drewN q := by
  have e1 : (l.take n).length = n := by rw [List.length_take]; omega
  have e2 : (m.take n).length = n := by rw [List.length_take]; omega
  have h := texts_any A0 c0 (l.take n) A1 c1 (m.take n) (w.drewN k) (Kd.C_drewN (Kd.C_take h0 hn) k) (by omega) (Kd.C_drewN (Kd.C_take h1 hm) k) (by omega) (by omega)
  rw [e1, e2] at h
  refine h.mono ?_
  rintro e w' ⟨he, ⟨q, hq⟩⟩
  exact ⟨he, k + q, by rw [hq, World.drewN_drewN]⟩
/-- boxes of one's own -/
structure BX (w wr : World) (L : List (Nat × Array Value)) : Prop where
  bel : Below w.heap.size w wr
  is : ∀ x ∈ L, w.heap.size ≤ x.1 ∧ wr.heap[x.1]? = some (.cells x.2 26 (0, 0))
theorem BX.nil {w wr : World} (h : Below w.heap.size w wr) : BX w wr [] := ⟨h, fun x hx => by simp at hx⟩
theorem BX.step {w wr w2 : World} {L : List (Nat × Array Value)} (h : BX w wr L) (hb : Below wr.heap.size wr w2) : BX w w2 L :=
  ⟨below_then h.bel h.bel.size hb, fun x hx => ⟨(h.is x hx).1, (hb.block _ (blk_lt (h.is x hx).2)).trans (h.is x hx).2⟩⟩
theorem BX.new {w wr : World} {L : List (Nat × Array Value)} (h : BX w wr L) (hl : w.heap.size ≤ wr.heap.size) (cs : Array Value) : BX w (wr.alloc (.cells cs 26)) ((wr.heap.size, cs) :: L) := by
  have hs := h.step (below_alloc (Below.refl _ wr) (.cells cs 26))
  refine ⟨hs.bel, fun x hx => ?_⟩
  rcases List.mem_cons.1 hx with rfl | hx
  · exact ⟨hl, heap_alloc_new wr _⟩
  · exact hs.is x hx
theorem BX.g0 {w wr : World} {a : Nat} {cs : Array Value} {L : List (Nat × Array Value)} (h : BX w wr ((a, cs) :: L)) : wr.heap[a]? = some (.cells cs 26 (0, 0)) := (h.is (a, cs) (List.mem_cons_self ..)).2
theorem BX.g1 {w wr : World} {a : Nat} {cs : Array Value} {x : Nat × Array Value} {L : List (Nat × Array Value)} (h : BX w wr (x :: (a, cs) :: L)) : wr.heap[a]? = some (.cells cs 26 (0, 0)) := (h.is (a, cs) (List.mem_cons_of_mem _ (List.mem_cons_self ..))).2
theorem BX.g2 {w wr : World} {a : Nat} {cs : Array Value} {x y : Nat × Array Value} {L : List (Nat × Array Value)} (h : BX w wr (x :: y :: (a, cs) :: L)) : wr.heap[a]? = some (.cells cs 26 (0, 0)) := (h.is (a, cs) (List.mem_cons_of_mem _ (List.mem_cons_of_mem _ (List.mem_cons_self ..)))).2
theorem atS_GT : ∀ (l : List ByteArray) (N : Nat) (t : S26), GT N t → Okt N t → ∃ L, GT L (atS l t).1 := by
  intro l
  induction l with
  | nil => intro N t h _; exact ⟨N, h⟩
  | cons a l ih =>
    intro N t h hO
    rw [atS]
    cases hh : hasS t.f3 a with
    | false => rw [if_neg (by simp)]; exact ⟨1, GT_z0⟩
    | true =>
      rw [if_pos rfl]
      obtain ⟨h1, -⟩ := has_get hh
      have hL := OktL hO
      have hin : posS t.f3 a < t.f4.length := by omega
      have hm : t.f4.getD (posS t.f3 a) dir0 ∈ t.f4 := by rw [List.getD_eq_getElem?_getD, List.getElem?_eq_getElem hin]; exact List.getElem_mem hin
      exact ih N _ (GT_kid h hm) (Okt_kid hO hm)
theorem AtS_GT {N : Nat} {t : S26} {p : ByteArray} (h : GT N t) : ∃ L, GT L (AtS N t p).1 := by
  unfold AtS
  by_cases h1 : (chk N t 1 0).1 = 0
  · rw [if_neg (by simpa using h1)]
    cases h3 : (partsS p).all isE with
    | false => exact ⟨1, GT_z0⟩
    | true => rw [if_neg (by simp)]; exact atS_GT _ N t h (chk_okt N t 1 0 h (by omega) h1)
  · rw [if_pos h1]; exact ⟨1, GT_z0⟩
theorem AW.enter2 (w : World) (t u : S26) (A2 : Option Addr) (c2 : Nat) (A3 : Option Addr) (c3 : Nat) (A4 : Option Addr) (c4 : Nat) (B2 : Option Addr) (d2 : Nat) (B3 : Option Addr) (d3 : Nat) (B4 : Option Addr) (d4 : Nat) :
    AW w ((w.alloc (bx t A2 c2 A3 c3 A4 c4)).alloc (bx u B2 d2 B3 d3 B4 d4)) w.heap.size (w.heap.size + 1) #[.int .i64 t.f0, .bool t.f1, .slice A2 t.f2.length c2, .slice A3 t.f3.length c3, .slice A4 t.f4.length c4] #[.int .i64 u.f0, .bool u.f1, .slice B2 u.f2.length d2, .slice B3 u.f3.length d3, .slice B4 u.f4.length d4] := by
  obtain ⟨w1, hw1⟩ : ∃ q, w.alloc (bx t A2 c2 A3 c3 A4 c4) = q := ⟨_, rfl⟩
  have h1 : Below w.heap.size w w1 := hw1 ▸ below_alloc (Below.refl _ w) _
  have z1 : w1.heap.size = w.heap.size + 1 := by rw [← hw1]; simp
  have k1 : w1.heap[w.heap.size]? = some (bx t A2 c2 A3 c3 A4 c4) := hw1 ▸ heap_alloc_new w _
  have k2 := heap_alloc_new w1 (bx u B2 d2 B3 d3 B4 d4)
  rw [z1] at k2
  rw [hw1]
  exact ⟨blk_alloc k1 _, k2, by omega, by omega, below_alloc h1 _⟩
set_option maxRecDepth 20000 in
set_option maxHeartbeats 8000000 in
theorem TreeElse_row (N : Nat) (t : S26) (A2 : Option Addr) (c2 : Nat) (A3 : Option Addr) (c3 : Nat) (A4 : Option Addr) (c4 : Nat) (p o : ByteArray) (M : Nat) (u : S26) (B2 : Option Addr) (d2 : Nat) (B3 : Option Addr) (d3 : Nat) (B4 : Option Addr) (d4 : Nat) (w : World)
    (ht : TR w t A2 c2 A3 c3 A4 c4) (hG : GT N t) (hp : p.size ≤ 140737488351232) (ho : o.size ≤ 140737488351232) (hu : TR w u B2 d2 B3 d3 B4 d4) (hGu : GT M u) (hg : G0 w) :
    Calls Tryd.prog 7 #[TV t A2 c2 A3 c3 A4 c4, .string p, .string o, TV u B2 d2 B3 d3 B4 d4] w fun e w' => e = .returned (.bool true) ∧ Below w.heap.size w w' := by
  have HT := Aside0.mk (And.intro ht (And.intro hu hg))
  have HG := Aside0.mk (And.intro hG hGu)
  clear ht hu hg hG hGu
  have HW := Aside0.mk (AW.enter2 w t u A2 c2 A3 c3 A4 c4 B2 d2 B3 d3 B4 d4)
  go_enter Tryd.func7, Tryd.ntmps7
  go_upto_region 1 with fail
  generalize ((w.alloc (bx t A2 c2 A3 c3 A4 c4)).alloc (bx u B2 d2 B3 d3 B4 d4)) = w3 at *
  obtain ⟨a, ha⟩ : ∃ q, w.heap.size = q := ⟨_, rfl⟩
  rw [ha] at HW ⊢
  have HA := Aside0.mk ha
  clear ha
  obtain ⟨c, hc⟩ : ∃ q, a + 1 = q := ⟨_, rfl⟩
  rw [hc] at HW ⊢
  clear hc
  obtain ⟨x0, x1, x2, x3, x4⟩ := cells5 HW.out.ba
  obtain ⟨b0, b1, b2, b3, b4⟩ := cells5 HW.out.bc
  have hal := below_alloc (Below.refl w3.heap.size w3) (.cells #[.int .i64 t.f0, .bool t.f1, .slice A2 t.f2.length c2, .slice A3 t.f3.length c3, .slice A4 t.f4.length c4, .int .i64 u.f0, .bool u.f1, .slice B2 u.f2.length d2, .slice B3 u.f3.length d3, .slice B4 u.f4.length d4] 26)
  have HR := Aside0.mk (heap_alloc_new w3 (.cells #[.int .i64 t.f0, .bool t.f1, .slice A2 t.f2.length c2, .slice A3 t.f3.length c3, .slice A4 t.f4.length c4, .int .i64 u.f0, .bool u.f1, .slice B2 u.f2.length d2, .slice B3 u.f3.length d3, .slice B4 u.f4.length d4] 26))
  have HW4 := Aside0.mk (HW.out.step hal)
  clear hal HW
  go_wp2_with fail
  clear x0 x1 x2 x3 x4
  clear b0 b1 b2 b3 b4
  generalize w3.alloc (.cells #[.int .i64 t.f0, .bool t.f1, .slice A2 t.f2.length c2, .slice A3 t.f3.length c3, .slice A4 t.f4.length c4, .int .i64 u.f0, .bool u.f1, .slice B2 u.f2.length d2, .slice B3 u.f3.length d3, .slice B4 u.f4.length d4] 26) = w4 at *
  have HW := HW4
  clear HW4
  refine (heavy_any (N + M) [t, u] (some ⟨w3.heap.size, 0, none⟩) 2 w4 (two_C HR.out (HT.out.1.below HW.out.bel) (HT.out.2.1.below HW.out.bel)) (by intro v hv; simp at hv; rcases hv with rfl | rfl; exact GT_mono HG.out.1 (by omega); exact GT_mono HG.out.2 (by omega)) (by simp)).mono ?_
  rintro e w5 ⟨hv, rfl, hb, -⟩
  have HW := Aside0.mk (HW.out.step hb)
  clear hb HR
  cases hv with
  | true =>
    go_wp2_with fail
    exact bodyPost_ret (v := .bool true) (by simp [results, Tryd.results7, go_sem]) rfl ⟨rfl, HA.out ▸ HW.out.bel⟩
  | false =>
    by_cases h6 : p.size + o.size ≤ 600
    rotate_left
    · skip
      go_wp2_with fail
      exact bodyPost_ret (v := .bool true) (by simp [results, Tryd.results7, go_sem]) rfl ⟨rfl, HA.out ▸ HW.out.bel⟩
    cases hp0 : (p.toList == []) with
    | true =>
      go_wp2_with fail
      exact bodyPost_ret (v := .bool true) (by simp [results, Tryd.results7, go_sem]) rfl ⟨rfl, HA.out ▸ HW.out.bel⟩
    | false =>
      cases ho0 : (o.toList == []) with
      | true =>
        go_wp2_with fail
        exact bodyPost_ret (v := .bool true) (by simp [results, Tryd.results7, go_sem]) rfl ⟨rfl, HA.out ▸ HW.out.bel⟩
      | false =>
        go_wp2_with fail
        refine (RParts_any p w5 (by omega)).mono ?_
        rintro e w6 ⟨v0_, rfl, hR, hb⟩
        have HW := Aside0.mk (HW.out.step hb)
        obtain ⟨l, hl⟩ : ∃ q, partsS p = q := ⟨_, rfl⟩
        obtain ⟨okl, hok⟩ : ∃ q, l.all isE = q := ⟨_, rfl⟩
        rw [hl] at hR ⊢
        have hr2 : (resP [] l).2 = okl := by unfold resP; rw [hok]; cases okl <;> rfl
        rw [hr2]
        have Hl := Aside0.mk (And.intro hl hok)
        have HRl := Aside0.mk hR
        obtain ⟨LA, lc, rfl⟩ := Kd.R_slice hR
        clear hl hok hr2 hR hb
        go_wp2_with fail
        refine (RParts_any o w6 (by omega)).mono ?_
        rintro e w7 ⟨v0_, rfl, hR, hb⟩
        have HW := Aside0.mk (HW.out.step hb)
        obtain ⟨m, hl⟩ : ∃ q, partsS o = q := ⟨_, rfl⟩
        obtain ⟨okm, hok⟩ : ∃ q, m.all isE = q := ⟨_, rfl⟩
        rw [hl] at hR ⊢
        have hr2 : (resP [] m).2 = okm := by unfold resP; rw [hok]; cases okm <;> rfl
        rw [hr2]
        have Hm := Aside0.mk (And.intro hl hok)
        have HRm := Aside0.mk hR
        have HRl := Aside0.mk (Kd.R_below HRl.out hb)
        obtain ⟨MA, mc, rfl⟩ := Kd.R_slice hR
        clear hl hok hr2 hR hb
        cases okl with
        | false =>
          go_wp2_with fail
          refine (known_any _ (HT.out.2.2.below (HA.out ▸ HW.out.bel))).mono ?_
          rintro e w9 ⟨rfl, hb⟩
          have HW := Aside0.mk (HW.out.step hb)
          clear hb
          go_wp2_with fail
          exact bodyPost_ret (v := .bool true) (by simp [results, Tryd.results7, go_sem]) rfl ⟨rfl, HA.out ▸ HW.out.bel⟩
        | true =>
          cases okm with
          | false =>
            go_wp2_with fail
            refine (known_any _ (HT.out.2.2.below (HA.out ▸ HW.out.bel))).mono ?_
            rintro e w9 ⟨rfl, hb⟩
            have HW := Aside0.mk (HW.out.step hb)
            clear hb
            go_wp2_with fail
            exact bodyPost_ret (v := .bool true) (by simp [results, Tryd.results7, go_sem]) rfl ⟨rfl, HA.out ▸ HW.out.bel⟩
          | true =>
            have e1 : (resP [] l).1 = l := by unfold resP; rw [Hl.out.2]; rfl
            have e2 : (resP [] m).1 = m := by unfold resP; rw [Hm.out.2]; rfl
            rw [e1] at HRl ⊢
            rw [e2] at HRm ⊢
            clear e1 e2
            go_upto_region 8 with fail
            obtain ⟨n, hn⟩ : ∃ q, min l.length m.length = q := ⟨_, rfl⟩
            have hmin : min (l.length : Int) (m.length : Int) = (n : Int) := by omega
            rw [hmin]
            have HN : Aside0 (min l.length m.length = n) := ⟨hn⟩
            obtain ⟨hn1, hn2⟩ : n ≤ l.length ∧ n ≤ m.length := by omega
            have hl6 : n ≤ 1000000 := by have h1 := parts_len p; have h2 := Hl.out.1; rw [h2] at h1; omega
            obtain ⟨-, gl1, gl2⟩ := Kd.R_reads' HRl.out
            obtain ⟨-, gm1, gm2⟩ := Kd.R_reads' HRm.out
            have HQ := fun k => texts_quiet (l := l) (m := m) LA lc MA mc n w7 gl2 gl1 gm2 gm1 hn1 hn2 hl6 k
            obtain ⟨tt, htt⟩ : ∃ q, decide (l.take n = m.take n) = q := ⟨_, rfl⟩
            rw [htt] at HQ
            have HQ := Aside0.mk HQ
            have HTT := Aside0.mk htt
            have g1 : (n : Int) ≤ lc := by omega
            have g2 : (n : Int) ≤ mc := by omega
            clear hn hmin hn1 hn2 hl6 gl1 gl2 gm1 gm2 htt
            go_quiet ((go_at_call 24; with_reducible exact HQ.out _))
            have HW := Aside0.mk (HW.out.step (pw_below_drewN (Below.refl _ w7) nq))
            clear HQ HRl HRm
            generalize (w7.drewN nq) = w8 at *
            cases tt with
            | true =>
              go_wp2_with fail
              refine (known_any _ (HT.out.2.2.below (HA.out ▸ HW.out.bel))).mono ?_
              rintro e w9 ⟨rfl, hb⟩
              have HW := Aside0.mk (HW.out.step hb)
              clear hb
              go_wp2_with fail
              exact bodyPost_ret (v := .bool true) (by simp [results, Tryd.results7, go_sem]) rfl ⟨rfl, HA.out ▸ HW.out.bel⟩
            | false =>
              have hne : (partsS p).take (min (partsS p).length (partsS o).length) ≠ (partsS o).take (min (partsS p).length (partsS o).length) := by rw [Hl.out.1, Hm.out.1, HN.out]; exact of_decide_eq_false HTT.out
              have HNE := Aside0.mk hne
              clear hne
              obtain ⟨x0, x1, x2, x3, x4⟩ := cells5 HW.out.ba
              obtain ⟨b0, b1, b2, b3, b4⟩ := cells5 HW.out.bc
              go_wp2_with fail
              clear x0 x1 x2 x3 x4
              clear b0 b1 b2 b3 b4
              refine (Put_any N M t u A2 c2 A3 c3 A4 c4 B2 d2 B3 d3 B4 d4 p w8 (HT.out.1.below HW.out.bel) (HT.out.2.1.below HW.out.bel) HG.out.1 HG.out.2 (HT.out.2.2.below HW.out.bel) (by omega)).mono ?_
              obtain ⟨⟨r, k⟩, hr⟩ : ∃ q, PutS N M t p u = q := ⟨_, rfl⟩
              rw [hr]
              rintro e w9 ⟨G2, g2, G3, g3, G4, g4, rfl, ho, hb⟩
              simp only [TV]
              have HR := Aside0.mk hr
              have HW := Aside0.mk (HW.out.step hb)
              have HB := Aside0.mk (BX.nil HW.out.bel)
              have HTR := Aside0.mk ho.TR
              clear hb ho hr
              go_upto_region 11 with fail
              have hal := below_alloc (Below.refl _ w9) (.cells #[.int .i64 r.f0, .bool r.f1, .slice G2 r.f2.length g2, .slice G3 r.f3.length g3, .slice G4 r.f4.length g4] 26)
              have HB := Aside0.mk (HB.out.new (Nat.le_trans HW.out.bel.size (Nat.le_refl _)) #[.int .i64 r.f0, .bool r.f1, .slice G2 r.f2.length g2, .slice G3 r.f3.length g3, .slice G4 r.f4.length g4])
              have HW := Aside0.mk (HW.out.step hal)
              have HTR := Aside0.mk (HTR.out.below hal)
              clear hal
              obtain ⟨rb, hbb⟩ : ∃ q, w9.heap.size = q := ⟨_, rfl⟩
              rw [hbb] at HB ⊢
              clear hbb
              generalize w9.alloc (.cells #[.int .i64 r.f0, .bool r.f1, .slice G2 r.f2.length g2, .slice G3 r.f3.length g3, .slice G4 r.f4.length g4] 26) = w10 at *
              by_cases hz : k = 0
              rotate_left
              · skip
                have hkb : (k != 0) = true := by simpa using hz
                go_wp2_with fail
                refine (known_any _ (HT.out.2.2.below (HA.out ▸ HW.out.bel))).mono ?_
                rintro e w9 ⟨rfl, hb⟩
                have HW := Aside0.mk (HW.out.step hb)
                clear hb
                go_wp2_with fail
                exact bodyPost_ret (v := .bool true) (by simp [results, Tryd.results7, go_sem]) rfl ⟨rfl, HA.out ▸ HW.out.bel⟩
              subst hz
              obtain ⟨x0, x1, x2, x3, x4⟩ := cells5 HW.out.ba
              go_wp2_with fail
              clear x0 x1 x2 x3 x4
              refine (At_any N t A2 c2 A3 c3 A4 c4 o w10 (HT.out.1.below HW.out.bel) HG.out.1 (HT.out.2.2.below HW.out.bel) (by omega)).mono ?_
              have HGR : Aside0 (GT (N + M + (partsS p).length + 1) r) := ⟨PutS_GT HG.out.1 HG.out.2 HR.out⟩
              have HELSE := Aside0.mk (AtS_else HG.out.1 HR.out HNE.out)
              have HGY := Aside0.mk (AtS_GT (p := o) HG.out.1)
              obtain ⟨⟨y, f⟩, hy⟩ : ∃ q, AtS N t o = q := ⟨_, rfl⟩
              rw [hy] at HELSE HGY ⊢
              obtain ⟨L, hGY⟩ := HGY.out
              have HGY := Aside0.mk hGY
              clear hGY
              rintro e w11 ⟨C2, c2', C3, c3', C4, c4', rfl, ho, hb⟩
              simp only [TV]
              have HW := Aside0.mk (HW.out.step hb)
              have HB := Aside0.mk (HB.out.step hb)
              have HTR := Aside0.mk (HTR.out.below hb)
              have HTY := Aside0.mk ho.TR
              clear hb ho hy
              go_upto_region 14 with fail
              have hal := below_alloc (Below.refl _ w11) (.cells #[.int .i64 y.f0, .bool y.f1, .slice C2 y.f2.length c2', .slice C3 y.f3.length c3', .slice C4 y.f4.length c4'] 26)
              have HB := Aside0.mk (HB.out.new (Nat.le_trans HW.out.bel.size (Nat.le_refl _)) #[.int .i64 y.f0, .bool y.f1, .slice C2 y.f2.length c2', .slice C3 y.f3.length c3', .slice C4 y.f4.length c4'])
              have HW := Aside0.mk (HW.out.step hal)
              have HTR := Aside0.mk (HTR.out.below hal)
              have HTY := Aside0.mk (HTY.out.below hal)
              clear hal
              obtain ⟨yb, hbb⟩ : ∃ q, w11.heap.size = q := ⟨_, rfl⟩
              rw [hbb] at HB ⊢
              clear hbb
              generalize w11.alloc (.cells #[.int .i64 y.f0, .bool y.f1, .slice C2 y.f2.length c2', .slice C3 y.f3.length c3', .slice C4 y.f4.length c4'] 26) = w12 at *
              obtain ⟨x0, x1, x2, x3, x4⟩ := cells5 HB.out.g1
              go_wp2_with fail
              clear x0 x1 x2 x3 x4
              refine (At_any (N + M + (partsS p).length + 1) r G2 g2 G3 g3 G4 g4 o w12 HTR.out HGR.out (HT.out.2.2.below HW.out.bel) (by omega)).mono ?_
              rw [HELSE.out]
              rintro e w13 ⟨D2, e2, D3, e3, D4, e4, rfl, ho, hb⟩
              simp only [TV]
              have HW := Aside0.mk (HW.out.step hb)
              have HB := Aside0.mk (HB.out.step hb)
              have HTY := Aside0.mk (HTY.out.below hb)
              have HTZ := Aside0.mk ho.TR
              clear hb ho
              go_upto_region 15 with fail
              have hal := below_alloc (Below.refl _ w13) (.cells #[.int .i64 y.f0, .bool y.f1, .slice D2 y.f2.length e2, .slice D3 y.f3.length e3, .slice D4 y.f4.length e4] 26)
              have HB := Aside0.mk (HB.out.new (Nat.le_trans HW.out.bel.size (Nat.le_refl _)) #[.int .i64 y.f0, .bool y.f1, .slice D2 y.f2.length e2, .slice D3 y.f3.length e3, .slice D4 y.f4.length e4])
              have HW := Aside0.mk (HW.out.step hal)
              have HTY := Aside0.mk (HTY.out.below hal)
              have HTZ := Aside0.mk (HTZ.out.below hal)
              clear hal
              obtain ⟨zb, hbb⟩ : ∃ q, w13.heap.size = q := ⟨_, rfl⟩
              rw [hbb] at HB ⊢
              clear hbb
              generalize w13.alloc (.cells #[.int .i64 y.f0, .bool y.f1, .slice D2 y.f2.length e2, .slice D3 y.f3.length e3, .slice D4 y.f4.length e4] 26) = w14 at *
              obtain ⟨x0, x1, x2, x3, x4⟩ := cells5 HB.out.g1
              obtain ⟨b0, b1, b2, b3, b4⟩ := cells5 HB.out.g0
              go_wp2_with fail
              clear x0 x1 x2 x3 x4
              clear b0 b1 b2 b3 b4
              refine (Equal_any L L y y C2 c2' C3 c3' C4 c4' D2 e2 D3 e3 D4 e4 w14 HTY.out HTZ.out HGY.out HGY.out).mono ?_
              rintro e w15 ⟨rfl, hb⟩
              have HW := Aside0.mk (HW.out.step hb)
              clear hb
              rw [eqT_true rfl]
              go_wp2_with fail
              refine (known_any _ (HT.out.2.2.below (HA.out ▸ HW.out.bel))).mono ?_
              rintro e w9 ⟨rfl, hb⟩
              have HW := Aside0.mk (HW.out.step hb)
              clear hb
              go_wp2_with fail
              exact bodyPost_ret (v := .bool true) (by simp [results, Tryd.results7, go_sem]) rfl ⟨rfl, HA.out ▸ HW.out.bel⟩
end Go.Proofs.YtfnofjcdaghniaaDoor.Tree
