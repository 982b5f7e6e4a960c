/- nar: read, Decode, Split walked. Own work. -/
import Derived.Test.YthhajkmeadapgaaDcK
namespace Go.Proofs.Ythhajkmeadapgaa.Tree
set_option linter.unusedVariables false
set_option linter.unusedSimpArgs false
open Go.RowKit Go.Proofs.Ythhajkmeadapgaa.PL Go.Proofs.Ythhajkmeadapgaa.Mn Go.Proofs.YthhajkmeadapgaaW.PrintWords Go.Proofs.YthhajkmeadapgaaW.PrintLast Go.Proofs.YthhajkmeadapgaaW.PrintMore
theorem node_full9 (w0 : World) (g : Nat) : ∀ F, NDC w0 g (F + 1) := by
  intro F
  induction F with
  | zero =>
    intro deep s n w hd hR hl hn
    by_cases hs : s.2 = 0
    · exact node_long w0 g 0 deep s n w (by omega) hR hl hn hs (.inr (by omega))
    · exact node_bad w0 g 0 deep s n w (by omega) hR hl hn hs
  | succ F ih =>
    intro deep s n w hd hR hl hn
    by_cases hs : s.2 = 0
    · by_cases hq : 65536 < n + 1 ∨ 64 < deep
      · exact node_long w0 g (F + 1) deep s n w (by omega) hR hl hn hs hq
      · exact node_main w0 g (F + 1) deep s n w (by omega) hR hl hn ih hs hq
    · exact node_bad w0 g (F + 1) deep s n w (by omega) hR hl hn hs
theorem results_c2 {P : Program} {fn : Func} {p u v : Tmp} {ty : TypeId} (h : fn.results = #[.cell p ty, .tmp u, .tmp v]) (tmps : Array Value) (w : World) (g : Nat) (t : TypeId) (cs : Array Value) (fr : Nat × Nat) (d : TypeDesc)
    (hp : tmps.getD p undef = .pointer (some ⟨g, 0, none⟩)) (hg : w.heap[g]? = some (.cells cs t fr))
    (hu : P.underlying ty = some d) (hd : (match d with | .struct _ | .array _ _ => true | _ => false) = true) (hi : (P.info? ty).map (·.size) = some cs.size) :
    (results fn tmps).run P w = .ok (.tuple #[.agg cs, tmps.getD u undef, tmps.getD v undef]) w := by
  have hp' : tmps[p]?.getD undef = .pointer (some ⟨g, 0, none⟩) := by simpa using hp
  simp [results, h, hp', asAddr, run_loadVar_row w g t ty cs fr d hg hu hd hi]
theorem box_same {wr : World} {p : Nat} {a0 b0 c0 d0 e0 : Value} (h : wr.heap[p]? = some (.cells #[a0, b0, c0, d0, e0] 26 (0, 0))) (a b c d e : Value) :
    (((((wr.setCell ⟨p, 0, none⟩ a).setCell ⟨p, 1, none⟩ b).setCell ⟨p, 2, none⟩ c).setCell ⟨p, 3, none⟩ d).setCell ⟨p, 4, none⟩ e).heap[p]? = some (.cells #[a, b, c, d, e] 26 (0, 0)) := by
  have := blk_set (blk_set (blk_set (blk_set (blk_set h 0 a) 1 b) 2 c) 3 d) 4 e
  simpa using this
/-- the reader, as read's walk keeps it -/
structure RX (w w2 wr : World) (g p : Nat) (s : RS) (n : Nat) : Prop where
  rd : RD w wr g s n
  bx : wr.heap[p]? = some (.cells #[.int .i64 0, .bool false, .slice none 0 0, .slice none 0 0, .slice none 0 0] 26 (0, 0))
  kp : KeepBut w2 wr g none
  gp : p ≠ g
  lp : w.heap.size ≤ p
  lt : p < w2.heap.size ∧ g < w2.heap.size
theorem RX.keep {w w2 wr w3 : World} {g p : Nat} {s s2 : RS} {n n2 : Nat} (h : RX w w2 wr g p s n) (hr : RD w w3 g s2 n2) (hk : KeepBut wr w3 g none) : RX w w2 w3 g p s2 n2 :=
  ⟨hr, hk.blk h.bx h.gp (by simp), h.kp.trans hk (.inl rfl), h.gp, h.lp, h.lt⟩
theorem RX.below {w w2 wr w3 : World} {g p : Nat} {s : RS} {n : Nat} (h : RX w w2 wr g p s n) (hb : Below wr.heap.size wr w3) : RX w w2 w3 g p s n := h.keep (h.rd.keep hb) (KeepBut.of_below hb g none)
theorem far5 {W : World} {p q j : Nat} {v : Value} (hp : p ≠ q) (h : W.cell? ⟨q, j, none⟩ = some v) (a b c d e : Value) :
    (((((W.setCell ⟨p, 0, none⟩ a).setCell ⟨p, 1, none⟩ b).setCell ⟨p, 2, none⟩ c).setCell ⟨p, 3, none⟩ d).setCell ⟨p, 4, none⟩ e).cell? ⟨q, j, none⟩ = some v := by
  have st : ∀ {V : World} (i : Nat) (u : Value), V.cell? ⟨q, j, none⟩ = some v → (V.setCell ⟨p, i, none⟩ u).cell? ⟨q, j, none⟩ = some v := fun i u h =>
    (World.cell?_of_block (Below.heap_setCell _ ⟨p, i, none⟩ u q (fun e => hp e.symm))).trans h
  exact st 4 e (st 3 d (st 2 c (st 1 b (st 0 a h))))
/-- how read ends, out of what node has read -/
noncomputable def readT (t : S26) (s4 : RS) (bl : Nat) (last : Bool) : S26 × Nat × Int :=
  if s4.2 ≠ 0 then (z0, 0, s4.2) else if last = true ∧ 0 < s4.1.length then (z0, 0, 3) else if (chk 65 t 1 0).1 ≠ 0 then (z0, 0, (chk 65 t 1 0).1) else (t, bl - s4.1.length, 0)
/-- what read hands back: the tree, how many bytes it takes, what is wrong -/
noncomputable def readS (b : List Int) (last : Bool) : S26 × Nat × Int := readT (nodeS 65 1 (wdS (b, 0) [sMagic], 0)).1 (nodeS 65 1 (wdS (b, 0) [sMagic], 0)).2.1 b.length last
/-- behind read all that lay there lies there -/
theorem read_out {w w2 wr : World} {g p : Nat} {s : RS} {n : Nat} (h : RX w w2 wr g p s n) (a b c d e : Value) :
    Below w.heap.size w (((((wr.setCell ⟨p, 0, none⟩ a).setCell ⟨p, 1, none⟩ b).setCell ⟨p, 2, none⟩ c).setCell ⟨p, 3, none⟩ d).setCell ⟨p, 4, none⟩ e) :=
  below_set (below_set (below_set (below_set (below_set h.rd.b h.lp) h.lp) h.lp) h.lp) h.lp
theorem read_post {T x : S26 × Nat × Int} {w w' : World} {cs : Array Value} (hT : T = x) (hM : k26.M w' w.heap.size (fun _ => True) x.1 cs.toList) (hG : GT 65 x.1) (hb : Below w.heap.size w w') :
    ∃ cs', Ending.returned (.tuple #[.agg cs, .int .i64 (x.2.1 : Int), .int .i64 x.2.2]) = .returned (.tuple #[.agg cs', .int .i64 (T.2.1 : Int), .int .i64 T.2.2]) ∧ k26.M w' w.heap.size (fun _ => True) T.1 cs'.toList ∧ GT 65 T.1 ∧ Below w.heap.size w w' := by
  subst hT
  exact ⟨cs, rfl, hM, hG, hb⟩
set_option maxRecDepth 20000 in
set_option maxHeartbeats 4000000 in
theorem read_any (A : Option Addr) (c : Nat) (b : List Int) (last : Bool) (w : World) (hC : (Kd.int .u8).C w A b.length b) (hc : b.length ≤ c) (h8 : B8 b) (hl : b.length ≤ 1073741824) :
    Calls Try.prog 31 #[.slice A b.length c, .bool last] w fun e w' => ∃ cs, e = .returned (.tuple #[.agg cs, .int .i64 ((readS b last).2.1 : Int), .int .i64 (readS b last).2.2]) ∧ k26.M w' w.heap.size (fun _ => True) (readS b last).1 cs.toList ∧ GT 65 (readS b last).1 ∧ Below w.heap.size w w' := by
  have HC := Aside0.mk (And.intro hC (And.intro hc h8))
  have hwb := below_alloc (Below.refl w.heap.size w) (.cells #[.int .i64 0, .bool false, .slice none 0 0, .slice none 0 0, .slice none 0 0] 26)
  have HP1 := Aside0.mk (heap_alloc_new w (.cells #[.int .i64 0, .bool false, .slice none 0 0, .slice none 0 0, .slice none 0 0] 26))
  have HB1 := Aside0.mk hwb
  clear hC hc h8 hwb
  have HRS : Aside0 (readS b last = readT (nodeS 65 1 (wdS (b, 0) [sMagic], 0)).1 (nodeS 65 1 (wdS (b, 0) [sMagic], 0)).2.1 b.length last) := ⟨rfl⟩
  obtain ⟨T, hT⟩ : ∃ q, readS b last = q := ⟨_, rfl⟩
  rw [hT] at HRS ⊢
  have HT := Aside0.mk hT
  clear hT
  go_enter Try.func31, Try.ntmps31
  go_upto_region 1 with fail
  generalize (w.alloc (.cells #[.int .i64 0, .bool false, .slice none 0 0, .slice none 0 0, .slice none 0 0] 26)) = w1 at *
  obtain ⟨p, hp⟩ : ∃ q, w.heap.size = q := ⟨_, rfl⟩
  rw [hp] at HP1 ⊢
  have HP : Aside0 (w.heap.size = p) := ⟨hp⟩
  clear hp
  go_upto_region 2 with fail
  have HX : Aside0 (RX w (w1.alloc (.cells #[.slice A b.length c, .int .i64 0, .int .i64 0] 77)) (w1.alloc (.cells #[.slice A b.length c, .int .i64 0, .int .i64 0] 77)) w1.heap.size p (b, 0) 0) := by
    refine ⟨⟨⟨⟨A, c, heap_alloc_new w1 _, HC.out.2.1, HC.out.1⟩, below_weaken HB1.out HB1.out.size (below_alloc (Below.refl _ w1) _), HB1.out.size, HC.out.2.2⟩, blk_alloc HP1.out _, KeepBut.refl _ _ _, ?_, by rw [HP.out]; exact Nat.le_refl _, ?_⟩⟩
    · have := blk_lt HP1.out; omega
    · have := blk_lt HP1.out; simp; omega
  have HGM : Aside0 ((w1.alloc (.cells #[.slice A b.length c, .int .i64 0, .int .i64 0] 77)).heap.size = w1.heap.size + 1) := ⟨by simp⟩
  generalize (w1.alloc (.cells #[.slice A b.length c, .int .i64 0, .int .i64 0] 77)) = w2 at *
  obtain ⟨g, hg⟩ : ∃ q, w1.heap.size = q := ⟨_, rfl⟩
  rw [hg] at HX HGM ⊢
  clear hg
  have HXa := Aside0.mk (HX.out.below (below_alloc (Below.refl _ w2) (.cells ([sMagic].map Value.string).toArray 9)))
  have HGL : Aside0 (w2.heap.size ≠ g) := ⟨by have := HX.out.lt; omega⟩
  have hlw := wdS_len [sMagic] (b, 0)
  have hlw : (wdS (b, 0) [sMagic]).1.length ≤ b.length := hlw
  go_wp2_with fail
  refine (word_any w (w2.alloc (.cells ([sMagic].map Value.string).toArray 9)) g (b, 0) 0 (some ⟨w2.heap.size, 0, none⟩) 1 [sMagic] HXa.out.rd (by show b.length ≤ _; omega) (lit_C (by omega) (n := 1) rfl HGL.out 9) (by decide)).mono ?_
  rintro e_ w3 ⟨rfl, hr, hk⟩
  have HX3 := Aside0.mk (HXa.out.keep hr hk)
  clear hr hk HXa HX HGL
  obtain ⟨s1, hs1⟩ : ∃ q, wdS (b, 0) [sMagic] = q := ⟨_, rfl⟩
  rw [hs1] at HRS HX3 hlw
  clear hs1
  go_wp2_with fail
  refine (node_full9 w g 64 1 s1 0 w3 rfl HX3.out.rd (by omega) (by omega)).mono ?_
  rintro e_ w4 ⟨cs, rfl, hM, hG, hr, hk⟩
  have HX4 := Aside0.mk (HX3.out.keep hr hk)
  have HS35 : Aside0 (w2.heap.size ≤ w3.heap.size) := ⟨HX3.out.kp.1⟩
  have HS34 : Aside0 (w.heap.size ≤ w3.heap.size ∧ g < w3.heap.size) := ⟨by have := HX3.out.kp.1; have := HX3.out.lt; have := HX3.out.lp; omega⟩
  obtain ⟨t, ht⟩ : ∃ q, (nodeS 65 1 (s1, 0)).1 = q := ⟨_, rfl⟩
  obtain ⟨s4, hs4⟩ : ∃ q, (nodeS 65 1 (s1, 0)).2.1 = q := ⟨_, rfl⟩
  have hlen4 := (nodeS_len 65 1 (s1, 0)).1
  rw [hs4] at hlen4
  have hlen4 : s4.1.length ≤ s1.1.length := hlen4
  rw [ht] at hM hG
  have HRS2 : Aside0 (T = readT t s4 b.length last) := ⟨by rw [HRS.out, ht, hs4]⟩
  rw [hs4] at HX4
  generalize (nodeS 65 1 (s1, 0)).2.2 = n4 at *
  obtain ⟨v2, v3, v4, hcs, hK2, hK3, hK4⟩ := k26_openM hM
  obtain ⟨q2, d2, rfl⟩ := Kd.R_slice hK2
  obtain ⟨q3, d3, rfl⟩ := Kd.R_slice hK3
  obtain ⟨q4, d4, rfl⟩ := Kd.R_slice hK4
  obtain ⟨cs, rfl⟩ : ∃ l : List Value, cs = l.toArray := ⟨cs.toList, by simp⟩
  simp only [List.toList_toArray] at hcs hM
  subst hcs
  have HM4 := Aside0.mk hM
  have HG4 := Aside0.mk hG
  have HTR : Aside0 (TR w4 t q2 d2 q3 d3 q4 d4) := ⟨⟨(Kd.R_reads' hK2).2.1, (Kd.R_reads' hK2).2.2, (Kd.R_reads' hK3).2.1, (Kd.R_reads' hK3).2.2, (Kd.R_reads' hK4).2.1, (Kd.R_reads' hK4).2.2⟩⟩
  clear hM hG hr hk hK2 hK3 hK4 ht hs4 HRS HX3
  have hb5 := below_alloc (Below.refl w4.heap.size w4) (.cells #[.int .i64 t.f0, .bool t.f1, .slice q2 t.f2.length d2, .slice q3 t.f3.length d3, .slice q4 t.f4.length d4] 26)
  have HT5 := Aside0.mk (heap_alloc_new w4 (.cells #[.int .i64 t.f0, .bool t.f1, .slice q2 t.f2.length d2, .slice q3 t.f3.length d3, .slice q4 t.f4.length d4] 26))
  have HX5 := Aside0.mk (HX4.out.below hb5)
  have HM5 := Aside0.mk (Kd.M_below HM4.out hb5)
  have HTR5 := Aside0.mk (HTR.out.below hb5)
  have HQ5 : Aside0 (w4.heap.size ≠ g ∧ w4.heap.size ≠ p) := ⟨by have := HX4.out.kp.1; have := HX4.out.lt; omega⟩
  clear hb5 HM4 HTR HX4
  go_upto_region 4 with fail
  generalize (w4.alloc (.cells #[.int .i64 t.f0, .bool t.f1, .slice q2 t.f2.length d2, .slice q3 t.f3.length d3, .slice q4 t.f4.length d4] 26)) = w5 at *
  obtain ⟨tb, htb⟩ : ∃ q, w4.heap.size = q := ⟨_, rfl⟩
  rw [htb] at HT5 HQ5 ⊢
  clear htb
  have HS5 : Aside0 (p < w3.heap.size) := ⟨by have := HX5.out.lt; have := HS35.out; omega⟩
  by_cases h0 : s4.2 = 0
  · cases last with
    | true =>
      obtain ⟨Ar, cr, hblk, -, -⟩ := HX5.out.rd.blk
      obtain ⟨⟨pr, pe, -⟩, -⟩ := cells3 hblk
      clear hblk
      rw [h0] at pe
      by_cases h1 : 0 < s4.1.length
      · have h1' : (0 : Int) < (s4.1.length : Int) := by omega
        go_wp2_with fail
        refine (fail_any w w5 g s4 n4 3 HX5.out.rd).mono ?_
        rintro e_ w7 ⟨rfl, hr, hk⟩
        have HX7 := Aside0.mk (HX5.out.keep hr hk)
        have hfl : flS s4 3 = (s4.1, 3) := by unfold flS; rw [if_pos h0]
        rw [hfl] at HX7
        clear hr hk hfl pe pr
        have HXe := HX7
        obtain ⟨Ar, cr, hblk, -, -⟩ := HXe.out.rd.blk
        obtain ⟨⟨pr, pe, -⟩, -⟩ := cells3 hblk
        clear hblk
        have HXd := Aside0.mk (HXe.out.below (below_drew (Below.refl _ w7)))
        have HTT : Aside0 (T = (z0, 0, 3)) := ⟨by rw [HRS2.out]; unfold readT; rw [if_neg (fun h => h h0), if_pos ⟨rfl, h1⟩]⟩
        have HPE : Aside0 (w7.cell? ⟨g, 1, none⟩ = some (.int .i64 3)) := ⟨pe⟩
        go_upto_region 9 with fail
        clear pe pr
        refine start_ (n := 8) (S := fun w' => w'.cell? ⟨g, 1, none⟩ = some (.int .i64 3)) (ds := []) #[false, false, false, false, false, false, false, false] (by kernel_rfl) rfl rfl HPE.out (fun hHeld => ?_)
        obtain ⟨wz, hwz⟩ : ∃ q, w7.drew = q := ⟨_, rfl⟩
        rw [hwz] at HXd hHeld ⊢
        clear hwz
        refine pure_ (i := 0) (N := some 49) (v := ?_) (a' := ?_) #[true, false, false, false, false, false, false, false] rfl rfl (by kernel_rfl) (fun _ _ _ h => h) (Or.inl ⟨by rfl, ?_⟩) ?_ ?_
        rotate_left
        · intro w'
          go_simp
          with_reducible rfl
        rotate_left
        · simp only [Act.put, List.setIfInBounds_toArray, List.set_cons_zero, List.set_cons_succ]
          rfl
        refine pure_ (i := 1) (N := some 50) (v := ?_) (a' := ?_) #[true, true, false, false, false, false, false, false] rfl rfl (by kernel_rfl) (fun _ _ _ h => h) (Or.inl ⟨by rfl, ?_⟩) ?_ ?_
        rotate_left
        · intro w'
          go_simp
          with_reducible rfl
        rotate_left
        · simp only [Act.put, List.setIfInBounds_toArray, List.set_cons_zero, List.set_cons_succ]
          rfl
        refine pure_ (i := 2) (N := some 51) (v := ?_) (a' := ?_) #[true, true, true, false, false, false, false, false] rfl rfl (by kernel_rfl) (fun _ _ _ h => h) (Or.inl ⟨by rfl, ?_⟩) ?_ ?_
        rotate_left
        · intro w'
          go_simp
          with_reducible rfl
        rotate_left
        · simp only [Act.put, List.setIfInBounds_toArray, List.set_cons_zero, List.set_cons_succ]
          rfl
        refine pure_ (i := 3) (N := some 52) (v := ?_) (a' := ?_) #[true, true, true, true, false, false, false, false] rfl rfl (by kernel_rfl) (fun _ _ _ h => h) (Or.inl ⟨by rfl, ?_⟩) ?_ ?_
        rotate_left
        · intro w'
          go_simp
          with_reducible rfl
        rotate_left
        · simp only [Act.put, List.setIfInBounds_toArray, List.set_cons_zero, List.set_cons_succ]
          rfl
        refine take_ (i := 4) (N := some 53) (v := ?_) (a' := ?_) #[true, true, true, true, true, false, false, false] rfl rfl (by kernel_rfl) (fun _ _ _ h => h) (Or.inl ⟨by rfl, ?_⟩) hHeld ?_ ?_
        rotate_left
        · rintro w' s0
          go_simp
          with_reducible rfl
        rotate_left
        · simp only [Act.put, List.setIfInBounds_toArray, List.set_cons_zero, List.set_cons_succ]
          rfl
        obtain ⟨b0, b1, b2, b3, b4⟩ := cells5 HXd.out.bx
        have f0 := blk_frozen HXd.out.bx 0
        have f1 := blk_frozen HXd.out.bx 1
        have f2 := blk_frozen HXd.out.bx 2
        have f3 := blk_frozen HXd.out.bx 3
        have f4 := blk_frozen HXd.out.bx 4
        refine one_ (i := 5) (N := none) #[true, true, true, true, true, true, false, false] rfl rfl (by kernel_rfl) (by decide) (fun K hK => ?_)
        go_simp
        refine hK.out _ _ (far5 HXd.out.gp hHeld (.int .i64 0) (.bool false) (.slice none 0 0) (.slice none 0 0) (.slice none 0 0)) (fun hHeld => ?_)
        clear hK K
        refine pure_ (i := 6) (N := some 5) (v := ?_) (a' := ?_) #[true, true, true, true, true, true, true, false] rfl rfl (by kernel_rfl) (fun _ _ _ h => h) (Or.inl ⟨by rfl, ?_⟩) ?_ ?_
        rotate_left
        · intro w'
          go_simp
          with_reducible rfl
        rotate_left
        · simp only [Act.put, List.setIfInBounds_toArray, List.set_cons_zero, List.set_cons_succ]
          rfl
        refine pure_ (i := 7) (N := some 6) (v := ?_) (a' := ?_) #[true, true, true, true, true, true, true, true] rfl rfl (by kernel_rfl) (fun _ _ _ h => h) (Or.inl ⟨by rfl, ?_⟩) ?_ ?_
        rotate_left
        · intro w'
          go_simp
          with_reducible rfl
        rotate_left
        · simp only [Act.put, List.setIfInBounds_toArray, List.set_cons_zero, List.set_cons_succ]
          rfl
        refine done_ (by kernel_rfl) ?_
        go_wp2_with fail
        have hbs := box_same HXd.out.bx (.int .i64 0) (.bool false) (.slice none 0 0) (.slice none 0 0) (.slice none 0 0)
        have hro := read_out HXd.out (.int .i64 0) (.bool false) (.slice none 0 0) (.slice none 0 0) (.slice none 0 0)
        refine bodyPost_ret (results_c2 rfl _ _ p 26 _ (0, 0) _ rfl hbs Try.underlying26 rfl (by kernel_rfl)) rfl ?_
        exact read_post HTT.out (z0_M _ w.heap.size) (GT_z0 64) hro
      · have h1' : ¬ (0 : Int) < (s4.1.length : Int) := by omega
        obtain ⟨x0, x1, x2, x3, x4⟩ := cells5 HT5.out
        obtain ⟨k, hk9⟩ : ∃ q, (chk 65 t 1 0).1 = q := ⟨_, rfl⟩
        have HK9 := Aside0.mk hk9
        clear hk9
        go_wp2_with fail
        refine (Check_any 65 t q2 d2 q3 d3 q4 d4 w5 HTR5.out HG4.out).mono ?_
        rintro e_ w6 ⟨rfl, hb6⟩
        have HX6 := Aside0.mk (HX5.out.below hb6)
        have HT6 := Aside0.mk ((hb6.block _ (blk_lt HT5.out)).trans HT5.out)
        have HM6 := Aside0.mk (Kd.M_below HM5.out hb6)
        clear hb6 x0 x1 x2 x3 x4 pe pr
        rw [HK9.out]
        go_wp2_with fail
        refine (fail_any w w6 g s4 n4 k HX6.out.rd).mono ?_
        rintro e_ w7 ⟨rfl, hr, hk⟩
        have HX7 := Aside0.mk (HX6.out.keep hr hk)
        have HT7 := Aside0.mk (hk.blk HT6.out HQ5.out.1 (by simp))
        have HM7 := Aside0.mk (k26.M_mono (ok' := fun _ => True) (fun _ _ => trivial) (Kd.M_keep (k26.M_bound HM6.out) hk (fun k hk => by have := HS34.out; omega)))
        have hfl : flS s4 k = (s4.1, k) := by unfold flS; rw [if_pos h0]
        rw [hfl] at HX7
        clear hr hk hfl HX6 HT6 HM6
        by_cases hk0 : k = 0
        · subst hk0
          have HXe := HX7
          obtain ⟨Ar, cr, hblk, -, -⟩ := HXe.out.rd.blk
          obtain ⟨⟨pr, pe, -⟩, -⟩ := cells3 hblk
          clear hblk
          have HXd := Aside0.mk (HXe.out.below (below_drew (Below.refl _ w7)))
          have HMd := Aside0.mk (Kd.M_below HM7.out (below_drew (Below.refl _ w7)))
          have HTT : Aside0 (T = (t, b.length - s4.1.length, 0)) := ⟨by rw [HRS2.out]; unfold readT; rw [if_neg (fun h => h h0), if_neg (fun h => h1 h.2), if_neg (by rw [HK9.out]; simp)]⟩
          have pr2 : w7.cell? ⟨g, 0, none⟩ = some (.slice Ar s4.1.length cr) := pr
          have pe2 : w7.cell? ⟨g, 1, none⟩ = some (.int .i64 0) := pe
          clear pr pe
          have HPR := Aside0.mk pr2
          go_upto_region 10 with fail
          clear pr2 pe2
          obtain ⟨x0, x1, x2, x3, x4⟩ := cells5 HT7.out
          refine start_ (n := 12) (S := fun w' => w'.cell? ⟨g, 0, none⟩ = some (.slice Ar s4.1.length cr) ∧ w'.cell? ⟨tb, 0, none⟩ = some (.int .i64 t.f0) ∧ w'.cell? ⟨tb, 1, none⟩ = some (.bool t.f1) ∧ w'.cell? ⟨tb, 2, none⟩ = some (.slice q2 t.f2.length d2) ∧ w'.cell? ⟨tb, 3, none⟩ = some (.slice q3 t.f3.length d3) ∧ w'.cell? ⟨tb, 4, none⟩ = some (.slice q4 t.f4.length d4)) (ds := []) #[false, false, false, false, false, false, false, false, false, false, false, false] (by kernel_rfl) rfl rfl ⟨HPR.out, x0, x1, x2, x3, x4⟩ (fun hHeld => ?_)
          obtain ⟨wz, hwz⟩ : ∃ q, w7.drew = q := ⟨_, rfl⟩
          rw [hwz] at HXd HMd hHeld ⊢
          clear hwz x0 x1 x2 x3 x4
          have hsub : IntKind.i64.wrap ((b.length : Int) - (s4.1.length : Int)) = ((b.length - s4.1.length : Nat) : Int) := by rw [IntKind.wrap_i64]; omega
          have HSUB := Aside0.mk hsub
          clear hsub
          refine take_ (i := 0) (N := some 54) (v := ?_) (a' := ?_) #[true, false, false, false, false, false, false, false, false, false, false, false] rfl rfl (by kernel_rfl) (fun _ _ _ h => h) (Or.inl ⟨by rfl, ?_⟩) hHeld ?_ ?_
          rotate_left
          · rintro w' ⟨s0, s1, s2, s3, s4, s5⟩
            go_simp
            with_reducible rfl
          rotate_left
          · simp only [Act.put, List.setIfInBounds_toArray, List.set_cons_zero, List.set_cons_succ]
            rfl
          refine pure_ (i := 1) (N := some 55) (v := ?_) (a' := ?_) #[true, true, false, false, false, false, false, false, false, false, false, false] rfl rfl (by kernel_rfl) (fun _ _ _ h => h) (Or.inl ⟨by rfl, ?_⟩) ?_ ?_
          rotate_left
          · intro w'
            go_simp
            with_reducible rfl
          rotate_left
          · simp only [Act.put, List.setIfInBounds_toArray, List.set_cons_zero, List.set_cons_succ]
            rfl
          refine pure_ (i := 2) (N := some 56) (v := ?_) (a' := ?_) #[true, true, true, false, false, false, false, false, false, false, false, false] rfl rfl (by kernel_rfl) (fun _ _ _ h => h) (Or.inl ⟨by rfl, ?_⟩) ?_ ?_
          rotate_left
          · intro w'
            go_simp
            with_reducible rfl
          rotate_left
          · simp only [Act.put, List.setIfInBounds_toArray, List.set_cons_zero, List.set_cons_succ]
            rfl
          refine pure_ (i := 3) (N := some 57) (v := ?_) (a' := ?_) #[true, true, true, true, false, false, false, false, false, false, false, false] rfl rfl (by kernel_rfl) (fun _ _ _ h => h) (Or.inl ⟨by rfl, ?_⟩) ?_ ?_
          rotate_left
          · intro w'
            go_simp
            with_reducible rfl
          rotate_left
          · simp only [Act.put, List.setIfInBounds_toArray, List.set_cons_zero, List.set_cons_succ]
            rfl
          refine pure_ (i := 4) (N := some 58) (v := ?_) (a' := ?_) #[true, true, true, true, true, false, false, false, false, false, false, false] rfl rfl (by kernel_rfl) (fun _ _ _ h => h) (Or.inl ⟨by rfl, ?_⟩) ?_ ?_
          rotate_left
          · intro w'
            go_simp
            with_reducible rfl
          rotate_left
          · simp only [Act.put, List.setIfInBounds_toArray, List.set_cons_zero, List.set_cons_succ]
            rfl
          refine pure_ (i := 5) (N := some 59) (v := ?_) (a' := ?_) #[true, true, true, true, true, true, false, false, false, false, false, false] rfl rfl (by kernel_rfl) (fun _ _ _ h => h) (Or.inl ⟨by rfl, ?_⟩) ?_ ?_
          rotate_left
          · intro w'
            go_simp
            with_reducible rfl
          rotate_left
          · simp only [Act.put, List.setIfInBounds_toArray, List.set_cons_zero, List.set_cons_succ]
            rfl
          refine take_ (i := 6) (N := some 60) (v := ?_) (a' := ?_) #[true, true, true, true, true, true, true, false, false, false, false, false] rfl rfl (by kernel_rfl) (fun _ _ _ h => h) (Or.inl ⟨by rfl, ?_⟩) hHeld ?_ ?_
          rotate_left
          · rintro w' ⟨s0, s1, s2, s3, s4, s5⟩
            go_simp
            with_reducible rfl
          rotate_left
          · simp only [Act.put, List.setIfInBounds_toArray, List.set_cons_zero, List.set_cons_succ]
            rfl
          refine pure_ (i := 7) (N := some 61) (v := ?_) (a' := ?_) #[true, true, true, true, true, true, true, true, false, false, false, false] rfl rfl (by kernel_rfl) (fun _ _ _ h => h) (Or.inl ⟨by rfl, ?_⟩) ?_ ?_
          rotate_left
          · intro w'
            go_simp
            with_reducible rfl
          rotate_left
          · simp only [Act.put, List.setIfInBounds_toArray, List.set_cons_zero, List.set_cons_succ]
            rfl
          refine pure_ (i := 8) (N := some 62) (v := ?_) (a' := ?_) #[true, true, true, true, true, true, true, true, true, false, false, false] rfl rfl (by kernel_rfl) (fun _ _ _ h => h) (Or.inl ⟨by rfl, ?_⟩) ?_ ?_
          rotate_left
          · intro w'
            go_simp
            with_reducible rfl
          rotate_left
          · simp only [Act.put, List.setIfInBounds_toArray, List.set_cons_zero, List.set_cons_succ]
            rfl
          obtain ⟨b0, b1, b2, b3, b4⟩ := cells5 HXd.out.bx
          have f0 := blk_frozen HXd.out.bx 0
          have f1 := blk_frozen HXd.out.bx 1
          have f2 := blk_frozen HXd.out.bx 2
          have f3 := blk_frozen HXd.out.bx 3
          have f4 := blk_frozen HXd.out.bx 4
          refine one_ (i := 9) (N := none) #[true, true, true, true, true, true, true, true, true, true, false, false] rfl rfl (by kernel_rfl) (by decide) (fun K hK => ?_)
          go_simp
          refine hK.out _ _ ⟨far5 HXd.out.gp hHeld.1 (.int .i64 t.f0) (.bool t.f1) (.slice q2 t.f2.length d2) (.slice q3 t.f3.length d3) (.slice q4 t.f4.length d4), far5 (fun e => HQ5.out.2 e.symm) hHeld.2.1 (.int .i64 t.f0) (.bool t.f1) (.slice q2 t.f2.length d2) (.slice q3 t.f3.length d3) (.slice q4 t.f4.length d4), far5 (fun e => HQ5.out.2 e.symm) hHeld.2.2.1 (.int .i64 t.f0) (.bool t.f1) (.slice q2 t.f2.length d2) (.slice q3 t.f3.length d3) (.slice q4 t.f4.length d4), far5 (fun e => HQ5.out.2 e.symm) hHeld.2.2.2.1 (.int .i64 t.f0) (.bool t.f1) (.slice q2 t.f2.length d2) (.slice q3 t.f3.length d3) (.slice q4 t.f4.length d4), far5 (fun e => HQ5.out.2 e.symm) hHeld.2.2.2.2.1 (.int .i64 t.f0) (.bool t.f1) (.slice q2 t.f2.length d2) (.slice q3 t.f3.length d3) (.slice q4 t.f4.length d4), far5 (fun e => HQ5.out.2 e.symm) hHeld.2.2.2.2.2 (.int .i64 t.f0) (.bool t.f1) (.slice q2 t.f2.length d2) (.slice q3 t.f3.length d3) (.slice q4 t.f4.length d4)⟩ (fun hHeld => ?_)
          clear hK K
          refine pure_ (i := 10) (N := some 5) (v := ?_) (a' := ?_) #[true, true, true, true, true, true, true, true, true, true, true, false] rfl rfl (by kernel_rfl) (fun _ _ _ h => h) (Or.inl ⟨by rfl, ?_⟩) ?_ ?_
          rotate_left
          · intro w'
            go_simp
            with_reducible rfl
          rotate_left
          · simp only [Act.put, List.setIfInBounds_toArray, List.set_cons_zero, List.set_cons_succ]
            rfl
          refine pure_ (i := 11) (N := some 6) (v := ?_) (a' := ?_) #[true, true, true, true, true, true, true, true, true, true, true, true] rfl rfl (by kernel_rfl) (fun _ _ _ h => h) (Or.inl ⟨by rfl, ?_⟩) ?_ ?_
          rotate_left
          · intro w'
            go_simp
            with_reducible rfl
          rotate_left
          · simp only [Act.put, List.setIfInBounds_toArray, List.set_cons_zero, List.set_cons_succ]
            rfl
          refine done_ (by kernel_rfl) ?_
          go_wp2_with fail
          have hbs := box_same HXd.out.bx (.int .i64 t.f0) (.bool t.f1) (.slice q2 t.f2.length d2) (.slice q3 t.f3.length d3) (.slice q4 t.f4.length d4)
          have hro := read_out HXd.out (.int .i64 t.f0) (.bool t.f1) (.slice q2 t.f2.length d2) (.slice q3 t.f3.length d3) (.slice q4 t.f4.length d4)
          refine bodyPost_ret (results_c2 rfl _ _ p 26 _ (0, 0) _ rfl hbs Try.underlying26 rfl (by kernel_rfl)) rfl ?_
          have hrp := read_post HTT.out (k26.M_lower HS34.out.1 (M_same HMd.out HS5.out)) HG4.out hro
          simp only at hrp
          rw [← HSUB.out] at hrp
          exact hrp
        · have hb2 : (k != 0) = true := by simpa using hk0
          have HXe := HX7
          obtain ⟨Ar, cr, hblk, -, -⟩ := HXe.out.rd.blk
          obtain ⟨⟨pr, pe, -⟩, -⟩ := cells3 hblk
          clear hblk
          have HXd := Aside0.mk (HXe.out.below (below_drew (Below.refl _ w7)))
          have HTT : Aside0 (T = (z0, 0, k)) := ⟨by rw [HRS2.out]; unfold readT; rw [if_neg (fun h => h h0), if_neg (fun h => h1 h.2), if_pos (by rw [HK9.out]; exact hk0), HK9.out]⟩
          have HPE : Aside0 (w7.cell? ⟨g, 1, none⟩ = some (.int .i64 k)) := ⟨pe⟩
          go_upto_region 9 with fail
          clear pe pr
          refine start_ (n := 8) (S := fun w' => w'.cell? ⟨g, 1, none⟩ = some (.int .i64 k)) (ds := []) #[false, false, false, false, false, false, false, false] (by kernel_rfl) rfl rfl HPE.out (fun hHeld => ?_)
          obtain ⟨wz, hwz⟩ : ∃ q, w7.drew = q := ⟨_, rfl⟩
          rw [hwz] at HXd hHeld ⊢
          clear hwz
          refine pure_ (i := 0) (N := some 49) (v := ?_) (a' := ?_) #[true, false, false, false, false, false, false, false] rfl rfl (by kernel_rfl) (fun _ _ _ h => h) (Or.inl ⟨by rfl, ?_⟩) ?_ ?_
          rotate_left
          · intro w'
            go_simp
            with_reducible rfl
          rotate_left
          · simp only [Act.put, List.setIfInBounds_toArray, List.set_cons_zero, List.set_cons_succ]
            rfl
          refine pure_ (i := 1) (N := some 50) (v := ?_) (a' := ?_) #[true, true, false, false, false, false, false, false] rfl rfl (by kernel_rfl) (fun _ _ _ h => h) (Or.inl ⟨by rfl, ?_⟩) ?_ ?_
          rotate_left
          · intro w'
            go_simp
            with_reducible rfl
          rotate_left
          · simp only [Act.put, List.setIfInBounds_toArray, List.set_cons_zero, List.set_cons_succ]
            rfl
          refine pure_ (i := 2) (N := some 51) (v := ?_) (a' := ?_) #[true, true, true, false, false, false, false, false] rfl rfl (by kernel_rfl) (fun _ _ _ h => h) (Or.inl ⟨by rfl, ?_⟩) ?_ ?_
          rotate_left
          · intro w'
            go_simp
            with_reducible rfl
          rotate_left
          · simp only [Act.put, List.setIfInBounds_toArray, List.set_cons_zero, List.set_cons_succ]
            rfl
          refine pure_ (i := 3) (N := some 52) (v := ?_) (a' := ?_) #[true, true, true, true, false, false, false, false] rfl rfl (by kernel_rfl) (fun _ _ _ h => h) (Or.inl ⟨by rfl, ?_⟩) ?_ ?_
          rotate_left
          · intro w'
            go_simp
            with_reducible rfl
          rotate_left
          · simp only [Act.put, List.setIfInBounds_toArray, List.set_cons_zero, List.set_cons_succ]
            rfl
          refine take_ (i := 4) (N := some 53) (v := ?_) (a' := ?_) #[true, true, true, true, true, false, false, false] rfl rfl (by kernel_rfl) (fun _ _ _ h => h) (Or.inl ⟨by rfl, ?_⟩) hHeld ?_ ?_
          rotate_left
          · rintro w' s0
            go_simp
            with_reducible rfl
          rotate_left
          · simp only [Act.put, List.setIfInBounds_toArray, List.set_cons_zero, List.set_cons_succ]
            rfl
          obtain ⟨b0, b1, b2, b3, b4⟩ := cells5 HXd.out.bx
          have f0 := blk_frozen HXd.out.bx 0
          have f1 := blk_frozen HXd.out.bx 1
          have f2 := blk_frozen HXd.out.bx 2
          have f3 := blk_frozen HXd.out.bx 3
          have f4 := blk_frozen HXd.out.bx 4
          refine one_ (i := 5) (N := none) #[true, true, true, true, true, true, false, false] rfl rfl (by kernel_rfl) (by decide) (fun K hK => ?_)
          go_simp
          refine hK.out _ _ (far5 HXd.out.gp hHeld (.int .i64 0) (.bool false) (.slice none 0 0) (.slice none 0 0) (.slice none 0 0)) (fun hHeld => ?_)
          clear hK K
          refine pure_ (i := 6) (N := some 5) (v := ?_) (a' := ?_) #[true, true, true, true, true, true, true, false] rfl rfl (by kernel_rfl) (fun _ _ _ h => h) (Or.inl ⟨by rfl, ?_⟩) ?_ ?_
          rotate_left
          · intro w'
            go_simp
            with_reducible rfl
          rotate_left
          · simp only [Act.put, List.setIfInBounds_toArray, List.set_cons_zero, List.set_cons_succ]
            rfl
          refine pure_ (i := 7) (N := some 6) (v := ?_) (a' := ?_) #[true, true, true, true, true, true, true, true] rfl rfl (by kernel_rfl) (fun _ _ _ h => h) (Or.inl ⟨by rfl, ?_⟩) ?_ ?_
          rotate_left
          · intro w'
            go_simp
            with_reducible rfl
          rotate_left
          · simp only [Act.put, List.setIfInBounds_toArray, List.set_cons_zero, List.set_cons_succ]
            rfl
          refine done_ (by kernel_rfl) ?_
          go_wp2_with fail
          have hbs := box_same HXd.out.bx (.int .i64 0) (.bool false) (.slice none 0 0) (.slice none 0 0) (.slice none 0 0)
          have hro := read_out HXd.out (.int .i64 0) (.bool false) (.slice none 0 0) (.slice none 0 0) (.slice none 0 0)
          refine bodyPost_ret (results_c2 rfl _ _ p 26 _ (0, 0) _ rfl hbs Try.underlying26 rfl (by kernel_rfl)) rfl ?_
          exact read_post HTT.out (z0_M _ w.heap.size) (GT_z0 64) hro
    | false =>
      obtain ⟨Ar, cr, hblk, -, -⟩ := HX5.out.rd.blk
      obtain ⟨⟨pr, pe, -⟩, -⟩ := cells3 hblk
      clear hblk
      rw [h0] at pe
      obtain ⟨x0, x1, x2, x3, x4⟩ := cells5 HT5.out
      obtain ⟨k, hk9⟩ : ∃ q, (chk 65 t 1 0).1 = q := ⟨_, rfl⟩
      have HK9 := Aside0.mk hk9
      clear hk9
      go_wp2_with fail
      refine (Check_any 65 t q2 d2 q3 d3 q4 d4 w5 HTR5.out HG4.out).mono ?_
      rintro e_ w6 ⟨rfl, hb6⟩
      have HX6 := Aside0.mk (HX5.out.below hb6)
      have HT6 := Aside0.mk ((hb6.block _ (blk_lt HT5.out)).trans HT5.out)
      have HM6 := Aside0.mk (Kd.M_below HM5.out hb6)
      clear hb6 x0 x1 x2 x3 x4 pe pr
      rw [HK9.out]
      go_wp2_with fail
      refine (fail_any w w6 g s4 n4 k HX6.out.rd).mono ?_
      rintro e_ w7 ⟨rfl, hr, hk⟩
      have HX7 := Aside0.mk (HX6.out.keep hr hk)
      have HT7 := Aside0.mk (hk.blk HT6.out HQ5.out.1 (by simp))
      have HM7 := Aside0.mk (k26.M_mono (ok' := fun _ => True) (fun _ _ => trivial) (Kd.M_keep (k26.M_bound HM6.out) hk (fun k hk => by have := HS34.out; omega)))
      have hfl : flS s4 k = (s4.1, k) := by unfold flS; rw [if_pos h0]
      rw [hfl] at HX7
      clear hr hk hfl HX6 HT6 HM6
      by_cases hk0 : k = 0
      · subst hk0
        have HXe := HX7
        obtain ⟨Ar, cr, hblk, -, -⟩ := HXe.out.rd.blk
        obtain ⟨⟨pr, pe, -⟩, -⟩ := cells3 hblk
        clear hblk
        have HXd := Aside0.mk (HXe.out.below (below_drew (Below.refl _ w7)))
        have HMd := Aside0.mk (Kd.M_below HM7.out (below_drew (Below.refl _ w7)))
        have HTT : Aside0 (T = (t, b.length - s4.1.length, 0)) := ⟨by rw [HRS2.out]; unfold readT; rw [if_neg (fun h => h h0), if_neg (fun h => by cases h.1), if_neg (by rw [HK9.out]; simp)]⟩
        have pr2 : w7.cell? ⟨g, 0, none⟩ = some (.slice Ar s4.1.length cr) := pr
        have pe2 : w7.cell? ⟨g, 1, none⟩ = some (.int .i64 0) := pe
        clear pr pe
        have HPR := Aside0.mk pr2
        go_upto_region 10 with fail
        clear pr2 pe2
        obtain ⟨x0, x1, x2, x3, x4⟩ := cells5 HT7.out
        refine start_ (n := 12) (S := fun w' => w'.cell? ⟨g, 0, none⟩ = some (.slice Ar s4.1.length cr) ∧ w'.cell? ⟨tb, 0, none⟩ = some (.int .i64 t.f0) ∧ w'.cell? ⟨tb, 1, none⟩ = some (.bool t.f1) ∧ w'.cell? ⟨tb, 2, none⟩ = some (.slice q2 t.f2.length d2) ∧ w'.cell? ⟨tb, 3, none⟩ = some (.slice q3 t.f3.length d3) ∧ w'.cell? ⟨tb, 4, none⟩ = some (.slice q4 t.f4.length d4)) (ds := []) #[false, false, false, false, false, false, false, false, false, false, false, false] (by kernel_rfl) rfl rfl ⟨HPR.out, x0, x1, x2, x3, x4⟩ (fun hHeld => ?_)
        obtain ⟨wz, hwz⟩ : ∃ q, w7.drew = q := ⟨_, rfl⟩
        rw [hwz] at HXd HMd hHeld ⊢
        clear hwz x0 x1 x2 x3 x4
        have hsub : IntKind.i64.wrap ((b.length : Int) - (s4.1.length : Int)) = ((b.length - s4.1.length : Nat) : Int) := by rw [IntKind.wrap_i64]; omega
        have HSUB := Aside0.mk hsub
        clear hsub
        refine take_ (i := 0) (N := some 54) (v := ?_) (a' := ?_) #[true, false, false, false, false, false, false, false, false, false, false, false] rfl rfl (by kernel_rfl) (fun _ _ _ h => h) (Or.inl ⟨by rfl, ?_⟩) hHeld ?_ ?_
        rotate_left
        · rintro w' ⟨s0, s1, s2, s3, s4, s5⟩
          go_simp
          with_reducible rfl
        rotate_left
        · simp only [Act.put, List.setIfInBounds_toArray, List.set_cons_zero, List.set_cons_succ]
          rfl
        refine pure_ (i := 1) (N := some 55) (v := ?_) (a' := ?_) #[true, true, false, false, false, false, false, false, false, false, false, false] rfl rfl (by kernel_rfl) (fun _ _ _ h => h) (Or.inl ⟨by rfl, ?_⟩) ?_ ?_
        rotate_left
        · intro w'
          go_simp
          with_reducible rfl
        rotate_left
        · simp only [Act.put, List.setIfInBounds_toArray, List.set_cons_zero, List.set_cons_succ]
          rfl
        refine pure_ (i := 2) (N := some 56) (v := ?_) (a' := ?_) #[true, true, true, false, false, false, false, false, false, false, false, false] rfl rfl (by kernel_rfl) (fun _ _ _ h => h) (Or.inl ⟨by rfl, ?_⟩) ?_ ?_
        rotate_left
        · intro w'
          go_simp
          with_reducible rfl
        rotate_left
        · simp only [Act.put, List.setIfInBounds_toArray, List.set_cons_zero, List.set_cons_succ]
          rfl
        refine pure_ (i := 3) (N := some 57) (v := ?_) (a' := ?_) #[true, true, true, true, false, false, false, false, false, false, false, false] rfl rfl (by kernel_rfl) (fun _ _ _ h => h) (Or.inl ⟨by rfl, ?_⟩) ?_ ?_
        rotate_left
        · intro w'
          go_simp
          with_reducible rfl
        rotate_left
        · simp only [Act.put, List.setIfInBounds_toArray, List.set_cons_zero, List.set_cons_succ]
          rfl
        refine pure_ (i := 4) (N := some 58) (v := ?_) (a' := ?_) #[true, true, true, true, true, false, false, false, false, false, false, false] rfl rfl (by kernel_rfl) (fun _ _ _ h => h) (Or.inl ⟨by rfl, ?_⟩) ?_ ?_
        rotate_left
        · intro w'
          go_simp
          with_reducible rfl
        rotate_left
        · simp only [Act.put, List.setIfInBounds_toArray, List.set_cons_zero, List.set_cons_succ]
          rfl
        refine pure_ (i := 5) (N := some 59) (v := ?_) (a' := ?_) #[true, true, true, true, true, true, false, false, false, false, false, false] rfl rfl (by kernel_rfl) (fun _ _ _ h => h) (Or.inl ⟨by rfl, ?_⟩) ?_ ?_
        rotate_left
        · intro w'
          go_simp
          with_reducible rfl
        rotate_left
        · simp only [Act.put, List.setIfInBounds_toArray, List.set_cons_zero, List.set_cons_succ]
          rfl
        refine take_ (i := 6) (N := some 60) (v := ?_) (a' := ?_) #[true, true, true, true, true, true, true, false, false, false, false, false] rfl rfl (by kernel_rfl) (fun _ _ _ h => h) (Or.inl ⟨by rfl, ?_⟩) hHeld ?_ ?_
        rotate_left
        · rintro w' ⟨s0, s1, s2, s3, s4, s5⟩
          go_simp
          with_reducible rfl
        rotate_left
        · simp only [Act.put, List.setIfInBounds_toArray, List.set_cons_zero, List.set_cons_succ]
          rfl
        refine pure_ (i := 7) (N := some 61) (v := ?_) (a' := ?_) #[true, true, true, true, true, true, true, true, false, false, false, false] rfl rfl (by kernel_rfl) (fun _ _ _ h => h) (Or.inl ⟨by rfl, ?_⟩) ?_ ?_
        rotate_left
        · intro w'
          go_simp
          with_reducible rfl
        rotate_left
        · simp only [Act.put, List.setIfInBounds_toArray, List.set_cons_zero, List.set_cons_succ]
          rfl
        refine pure_ (i := 8) (N := some 62) (v := ?_) (a' := ?_) #[true, true, true, true, true, true, true, true, true, false, false, false] rfl rfl (by kernel_rfl) (fun _ _ _ h => h) (Or.inl ⟨by rfl, ?_⟩) ?_ ?_
        rotate_left
        · intro w'
          go_simp
          with_reducible rfl
        rotate_left
        · simp only [Act.put, List.setIfInBounds_toArray, List.set_cons_zero, List.set_cons_succ]
          rfl
        obtain ⟨b0, b1, b2, b3, b4⟩ := cells5 HXd.out.bx
        have f0 := blk_frozen HXd.out.bx 0
        have f1 := blk_frozen HXd.out.bx 1
        have f2 := blk_frozen HXd.out.bx 2
        have f3 := blk_frozen HXd.out.bx 3
        have f4 := blk_frozen HXd.out.bx 4
        refine one_ (i := 9) (N := none) #[true, true, true, true, true, true, true, true, true, true, false, false] rfl rfl (by kernel_rfl) (by decide) (fun K hK => ?_)
        go_simp
        refine hK.out _ _ ⟨far5 HXd.out.gp hHeld.1 (.int .i64 t.f0) (.bool t.f1) (.slice q2 t.f2.length d2) (.slice q3 t.f3.length d3) (.slice q4 t.f4.length d4), far5 (fun e => HQ5.out.2 e.symm) hHeld.2.1 (.int .i64 t.f0) (.bool t.f1) (.slice q2 t.f2.length d2) (.slice q3 t.f3.length d3) (.slice q4 t.f4.length d4), far5 (fun e => HQ5.out.2 e.symm) hHeld.2.2.1 (.int .i64 t.f0) (.bool t.f1) (.slice q2 t.f2.length d2) (.slice q3 t.f3.length d3) (.slice q4 t.f4.length d4), far5 (fun e => HQ5.out.2 e.symm) hHeld.2.2.2.1 (.int .i64 t.f0) (.bool t.f1) (.slice q2 t.f2.length d2) (.slice q3 t.f3.length d3) (.slice q4 t.f4.length d4), far5 (fun e => HQ5.out.2 e.symm) hHeld.2.2.2.2.1 (.int .i64 t.f0) (.bool t.f1) (.slice q2 t.f2.length d2) (.slice q3 t.f3.length d3) (.slice q4 t.f4.length d4), far5 (fun e => HQ5.out.2 e.symm) hHeld.2.2.2.2.2 (.int .i64 t.f0) (.bool t.f1) (.slice q2 t.f2.length d2) (.slice q3 t.f3.length d3) (.slice q4 t.f4.length d4)⟩ (fun hHeld => ?_)
        clear hK K
        refine pure_ (i := 10) (N := some 5) (v := ?_) (a' := ?_) #[true, true, true, true, true, true, true, true, true, true, true, false] rfl rfl (by kernel_rfl) (fun _ _ _ h => h) (Or.inl ⟨by rfl, ?_⟩) ?_ ?_
        rotate_left
        · intro w'
          go_simp
          with_reducible rfl
        rotate_left
        · simp only [Act.put, List.setIfInBounds_toArray, List.set_cons_zero, List.set_cons_succ]
          rfl
        refine pure_ (i := 11) (N := some 6) (v := ?_) (a' := ?_) #[true, true, true, true, true, true, true, true, true, true, true, true] rfl rfl (by kernel_rfl) (fun _ _ _ h => h) (Or.inl ⟨by rfl, ?_⟩) ?_ ?_
        rotate_left
        · intro w'
          go_simp
          with_reducible rfl
        rotate_left
        · simp only [Act.put, List.setIfInBounds_toArray, List.set_cons_zero, List.set_cons_succ]
          rfl
        refine done_ (by kernel_rfl) ?_
        go_wp2_with fail
        have hbs := box_same HXd.out.bx (.int .i64 t.f0) (.bool t.f1) (.slice q2 t.f2.length d2) (.slice q3 t.f3.length d3) (.slice q4 t.f4.length d4)
        have hro := read_out HXd.out (.int .i64 t.f0) (.bool t.f1) (.slice q2 t.f2.length d2) (.slice q3 t.f3.length d3) (.slice q4 t.f4.length d4)
        refine bodyPost_ret (results_c2 rfl _ _ p 26 _ (0, 0) _ rfl hbs Try.underlying26 rfl (by kernel_rfl)) rfl ?_
        have hrp := read_post HTT.out (k26.M_lower HS34.out.1 (M_same HMd.out HS5.out)) HG4.out hro
        simp only at hrp
        rw [← HSUB.out] at hrp
        exact hrp
      · have hb2 : (k != 0) = true := by simpa using hk0
        have HXe := HX7
        obtain ⟨Ar, cr, hblk, -, -⟩ := HXe.out.rd.blk
        obtain ⟨⟨pr, pe, -⟩, -⟩ := cells3 hblk
        clear hblk
        have HXd := Aside0.mk (HXe.out.below (below_drew (Below.refl _ w7)))
        have HTT : Aside0 (T = (z0, 0, k)) := ⟨by rw [HRS2.out]; unfold readT; rw [if_neg (fun h => h h0), if_neg (fun h => by cases h.1), if_pos (by rw [HK9.out]; exact hk0), HK9.out]⟩
        have HPE : Aside0 (w7.cell? ⟨g, 1, none⟩ = some (.int .i64 k)) := ⟨pe⟩
        go_upto_region 9 with fail
        clear pe pr
        refine start_ (n := 8) (S := fun w' => w'.cell? ⟨g, 1, none⟩ = some (.int .i64 k)) (ds := []) #[false, false, false, false, false, false, false, false] (by kernel_rfl) rfl rfl HPE.out (fun hHeld => ?_)
        obtain ⟨wz, hwz⟩ : ∃ q, w7.drew = q := ⟨_, rfl⟩
        rw [hwz] at HXd hHeld ⊢
        clear hwz
        refine pure_ (i := 0) (N := some 49) (v := ?_) (a' := ?_) #[true, false, false, false, false, false, false, false] rfl rfl (by kernel_rfl) (fun _ _ _ h => h) (Or.inl ⟨by rfl, ?_⟩) ?_ ?_
        rotate_left
        · intro w'
          go_simp
          with_reducible rfl
        rotate_left
        · simp only [Act.put, List.setIfInBounds_toArray, List.set_cons_zero, List.set_cons_succ]
          rfl
        refine pure_ (i := 1) (N := some 50) (v := ?_) (a' := ?_) #[true, true, false, false, false, false, false, false] rfl rfl (by kernel_rfl) (fun _ _ _ h => h) (Or.inl ⟨by rfl, ?_⟩) ?_ ?_
        rotate_left
        · intro w'
          go_simp
          with_reducible rfl
        rotate_left
        · simp only [Act.put, List.setIfInBounds_toArray, List.set_cons_zero, List.set_cons_succ]
          rfl
        refine pure_ (i := 2) (N := some 51) (v := ?_) (a' := ?_) #[true, true, true, false, false, false, false, false] rfl rfl (by kernel_rfl) (fun _ _ _ h => h) (Or.inl ⟨by rfl, ?_⟩) ?_ ?_
        rotate_left
        · intro w'
          go_simp
          with_reducible rfl
        rotate_left
        · simp only [Act.put, List.setIfInBounds_toArray, List.set_cons_zero, List.set_cons_succ]
          rfl
        refine pure_ (i := 3) (N := some 52) (v := ?_) (a' := ?_) #[true, true, true, true, false, false, false, false] rfl rfl (by kernel_rfl) (fun _ _ _ h => h) (Or.inl ⟨by rfl, ?_⟩) ?_ ?_
        rotate_left
        · intro w'
          go_simp
          with_reducible rfl
        rotate_left
        · simp only [Act.put, List.setIfInBounds_toArray, List.set_cons_zero, List.set_cons_succ]
          rfl
        refine take_ (i := 4) (N := some 53) (v := ?_) (a' := ?_) #[true, true, true, true, true, false, false, false] rfl rfl (by kernel_rfl) (fun _ _ _ h => h) (Or.inl ⟨by rfl, ?_⟩) hHeld ?_ ?_
        rotate_left
        · rintro w' s0
          go_simp
          with_reducible rfl
        rotate_left
        · simp only [Act.put, List.setIfInBounds_toArray, List.set_cons_zero, List.set_cons_succ]
          rfl
        obtain ⟨b0, b1, b2, b3, b4⟩ := cells5 HXd.out.bx
        have f0 := blk_frozen HXd.out.bx 0
        have f1 := blk_frozen HXd.out.bx 1
        have f2 := blk_frozen HXd.out.bx 2
        have f3 := blk_frozen HXd.out.bx 3
        have f4 := blk_frozen HXd.out.bx 4
        refine one_ (i := 5) (N := none) #[true, true, true, true, true, true, false, false] rfl rfl (by kernel_rfl) (by decide) (fun K hK => ?_)
        go_simp
        refine hK.out _ _ (far5 HXd.out.gp hHeld (.int .i64 0) (.bool false) (.slice none 0 0) (.slice none 0 0) (.slice none 0 0)) (fun hHeld => ?_)
        clear hK K
        refine pure_ (i := 6) (N := some 5) (v := ?_) (a' := ?_) #[true, true, true, true, true, true, true, false] rfl rfl (by kernel_rfl) (fun _ _ _ h => h) (Or.inl ⟨by rfl, ?_⟩) ?_ ?_
        rotate_left
        · intro w'
          go_simp
          with_reducible rfl
        rotate_left
        · simp only [Act.put, List.setIfInBounds_toArray, List.set_cons_zero, List.set_cons_succ]
          rfl
        refine pure_ (i := 7) (N := some 6) (v := ?_) (a' := ?_) #[true, true, true, true, true, true, true, true] rfl rfl (by kernel_rfl) (fun _ _ _ h => h) (Or.inl ⟨by rfl, ?_⟩) ?_ ?_
        rotate_left
        · intro w'
          go_simp
          with_reducible rfl
        rotate_left
        · simp only [Act.put, List.setIfInBounds_toArray, List.set_cons_zero, List.set_cons_succ]
          rfl
        refine done_ (by kernel_rfl) ?_
        go_wp2_with fail
        have hbs := box_same HXd.out.bx (.int .i64 0) (.bool false) (.slice none 0 0) (.slice none 0 0) (.slice none 0 0)
        have hro := read_out HXd.out (.int .i64 0) (.bool false) (.slice none 0 0) (.slice none 0 0) (.slice none 0 0)
        refine bodyPost_ret (results_c2 rfl _ _ p 26 _ (0, 0) _ rfl hbs Try.underlying26 rfl (by kernel_rfl)) rfl ?_
        exact read_post HTT.out (z0_M _ w.heap.size) (GT_z0 64) hro
  · have hb1 : (s4.2 == 0) = false := by simpa using h0
    have hb2 : (s4.2 != 0) = true := by simpa using h0
    cases last with
    | true =>
      have HXe := HX5
      obtain ⟨Ar, cr, hblk, -, -⟩ := HXe.out.rd.blk
      obtain ⟨⟨pr, pe, -⟩, -⟩ := cells3 hblk
      clear hblk
      have HXd := Aside0.mk (HXe.out.below (below_drew (Below.refl _ w5)))
      have HTT : Aside0 (T = (z0, 0, s4.2)) := ⟨by rw [HRS2.out]; unfold readT; rw [if_pos h0]⟩
      have HPE : Aside0 (w5.cell? ⟨g, 1, none⟩ = some (.int .i64 s4.2)) := ⟨pe⟩
      go_upto_region 9 with fail
      clear pe pr
      refine start_ (n := 8) (S := fun w' => w'.cell? ⟨g, 1, none⟩ = some (.int .i64 s4.2)) (ds := []) #[false, false, false, false, false, false, false, false] (by kernel_rfl) rfl rfl HPE.out (fun hHeld => ?_)
      obtain ⟨wz, hwz⟩ : ∃ q, w5.drew = q := ⟨_, rfl⟩
      rw [hwz] at HXd hHeld ⊢
      clear hwz
      refine pure_ (i := 0) (N := some 49) (v := ?_) (a' := ?_) #[true, false, false, false, false, false, false, false] rfl rfl (by kernel_rfl) (fun _ _ _ h => h) (Or.inl ⟨by rfl, ?_⟩) ?_ ?_
      rotate_left
      · intro w'
        go_simp
        with_reducible rfl
      rotate_left
      · simp only [Act.put, List.setIfInBounds_toArray, List.set_cons_zero, List.set_cons_succ]
        rfl
      refine pure_ (i := 1) (N := some 50) (v := ?_) (a' := ?_) #[true, true, false, false, false, false, false, false] rfl rfl (by kernel_rfl) (fun _ _ _ h => h) (Or.inl ⟨by rfl, ?_⟩) ?_ ?_
      rotate_left
      · intro w'
        go_simp
        with_reducible rfl
      rotate_left
      · simp only [Act.put, List.setIfInBounds_toArray, List.set_cons_zero, List.set_cons_succ]
        rfl
      refine pure_ (i := 2) (N := some 51) (v := ?_) (a' := ?_) #[true, true, true, false, false, false, false, false] rfl rfl (by kernel_rfl) (fun _ _ _ h => h) (Or.inl ⟨by rfl, ?_⟩) ?_ ?_
      rotate_left
      · intro w'
        go_simp
        with_reducible rfl
      rotate_left
      · simp only [Act.put, List.setIfInBounds_toArray, List.set_cons_zero, List.set_cons_succ]
        rfl
      refine pure_ (i := 3) (N := some 52) (v := ?_) (a' := ?_) #[true, true, true, true, false, false, false, false] rfl rfl (by kernel_rfl) (fun _ _ _ h => h) (Or.inl ⟨by rfl, ?_⟩) ?_ ?_
      rotate_left
      · intro w'
        go_simp
        with_reducible rfl
      rotate_left
      · simp only [Act.put, List.setIfInBounds_toArray, List.set_cons_zero, List.set_cons_succ]
        rfl
      refine take_ (i := 4) (N := some 53) (v := ?_) (a' := ?_) #[true, true, true, true, true, false, false, false] rfl rfl (by kernel_rfl) (fun _ _ _ h => h) (Or.inl ⟨by rfl, ?_⟩) hHeld ?_ ?_
      rotate_left
      · rintro w' s0
        go_simp
        with_reducible rfl
      rotate_left
      · simp only [Act.put, List.setIfInBounds_toArray, List.set_cons_zero, List.set_cons_succ]
        rfl
      obtain ⟨b0, b1, b2, b3, b4⟩ := cells5 HXd.out.bx
      have f0 := blk_frozen HXd.out.bx 0
      have f1 := blk_frozen HXd.out.bx 1
      have f2 := blk_frozen HXd.out.bx 2
      have f3 := blk_frozen HXd.out.bx 3
      have f4 := blk_frozen HXd.out.bx 4
      refine one_ (i := 5) (N := none) #[true, true, true, true, true, true, false, false] rfl rfl (by kernel_rfl) (by decide) (fun K hK => ?_)
      go_simp
      refine hK.out _ _ (far5 HXd.out.gp hHeld (.int .i64 0) (.bool false) (.slice none 0 0) (.slice none 0 0) (.slice none 0 0)) (fun hHeld => ?_)
      clear hK K
      refine pure_ (i := 6) (N := some 5) (v := ?_) (a' := ?_) #[true, true, true, true, true, true, true, false] rfl rfl (by kernel_rfl) (fun _ _ _ h => h) (Or.inl ⟨by rfl, ?_⟩) ?_ ?_
      rotate_left
      · intro w'
        go_simp
        with_reducible rfl
      rotate_left
      · simp only [Act.put, List.setIfInBounds_toArray, List.set_cons_zero, List.set_cons_succ]
        rfl
      refine pure_ (i := 7) (N := some 6) (v := ?_) (a' := ?_) #[true, true, true, true, true, true, true, true] rfl rfl (by kernel_rfl) (fun _ _ _ h => h) (Or.inl ⟨by rfl, ?_⟩) ?_ ?_
      rotate_left
      · intro w'
        go_simp
        with_reducible rfl
      rotate_left
      · simp only [Act.put, List.setIfInBounds_toArray, List.set_cons_zero, List.set_cons_succ]
        rfl
      refine done_ (by kernel_rfl) ?_
      go_wp2_with fail
      have hbs := box_same HXd.out.bx (.int .i64 0) (.bool false) (.slice none 0 0) (.slice none 0 0) (.slice none 0 0)
      have hro := read_out HXd.out (.int .i64 0) (.bool false) (.slice none 0 0) (.slice none 0 0) (.slice none 0 0)
      refine bodyPost_ret (results_c2 rfl _ _ p 26 _ (0, 0) _ rfl hbs Try.underlying26 rfl (by kernel_rfl)) rfl ?_
      exact read_post HTT.out (z0_M _ w.heap.size) (GT_z0 64) hro
    | false =>
      have HXe := HX5
      obtain ⟨Ar, cr, hblk, -, -⟩ := HXe.out.rd.blk
      obtain ⟨⟨pr, pe, -⟩, -⟩ := cells3 hblk
      clear hblk
      have HXd := Aside0.mk (HXe.out.below (below_drew (Below.refl _ w5)))
      have HTT : Aside0 (T = (z0, 0, s4.2)) := ⟨by rw [HRS2.out]; unfold readT; rw [if_pos h0]⟩
      have HPE : Aside0 (w5.cell? ⟨g, 1, none⟩ = some (.int .i64 s4.2)) := ⟨pe⟩
      go_upto_region 9 with fail
      clear pe pr
      refine start_ (n := 8) (S := fun w' => w'.cell? ⟨g, 1, none⟩ = some (.int .i64 s4.2)) (ds := []) #[false, false, false, false, false, false, false, false] (by kernel_rfl) rfl rfl HPE.out (fun hHeld => ?_)
      obtain ⟨wz, hwz⟩ : ∃ q, w5.drew = q := ⟨_, rfl⟩
      rw [hwz] at HXd hHeld ⊢
      clear hwz
      refine pure_ (i := 0) (N := some 49) (v := ?_) (a' := ?_) #[true, false, false, false, false, false, false, false] rfl rfl (by kernel_rfl) (fun _ _ _ h => h) (Or.inl ⟨by rfl, ?_⟩) ?_ ?_
      rotate_left
      · intro w'
        go_simp
        with_reducible rfl
      rotate_left
      · simp only [Act.put, List.setIfInBounds_toArray, List.set_cons_zero, List.set_cons_succ]
        rfl
      refine pure_ (i := 1) (N := some 50) (v := ?_) (a' := ?_) #[true, true, false, false, false, false, false, false] rfl rfl (by kernel_rfl) (fun _ _ _ h => h) (Or.inl ⟨by rfl, ?_⟩) ?_ ?_
      rotate_left
      · intro w'
        go_simp
        with_reducible rfl
      rotate_left
      · simp only [Act.put, List.setIfInBounds_toArray, List.set_cons_zero, List.set_cons_succ]
        rfl
      refine pure_ (i := 2) (N := some 51) (v := ?_) (a' := ?_) #[true, true, true, false, false, false, false, false] rfl rfl (by kernel_rfl) (fun _ _ _ h => h) (Or.inl ⟨by rfl, ?_⟩) ?_ ?_
      rotate_left
      · intro w'
        go_simp
        with_reducible rfl
      rotate_left
      · simp only [Act.put, List.setIfInBounds_toArray, List.set_cons_zero, List.set_cons_succ]
        rfl
      refine pure_ (i := 3) (N := some 52) (v := ?_) (a' := ?_) #[true, true, true, true, false, false, false, false] rfl rfl (by kernel_rfl) (fun _ _ _ h => h) (Or.inl ⟨by rfl, ?_⟩) ?_ ?_
      rotate_left
      · intro w'
        go_simp
        with_reducible rfl
      rotate_left
      · simp only [Act.put, List.setIfInBounds_toArray, List.set_cons_zero, List.set_cons_succ]
        rfl
      refine take_ (i := 4) (N := some 53) (v := ?_) (a' := ?_) #[true, true, true, true, true, false, false, false] rfl rfl (by kernel_rfl) (fun _ _ _ h => h) (Or.inl ⟨by rfl, ?_⟩) hHeld ?_ ?_
      rotate_left
      · rintro w' s0
        go_simp
        with_reducible rfl
      rotate_left
      · simp only [Act.put, List.setIfInBounds_toArray, List.set_cons_zero, List.set_cons_succ]
        rfl
      obtain ⟨b0, b1, b2, b3, b4⟩ := cells5 HXd.out.bx
      have f0 := blk_frozen HXd.out.bx 0
      have f1 := blk_frozen HXd.out.bx 1
      have f2 := blk_frozen HXd.out.bx 2
      have f3 := blk_frozen HXd.out.bx 3
      have f4 := blk_frozen HXd.out.bx 4
      refine one_ (i := 5) (N := none) #[true, true, true, true, true, true, false, false] rfl rfl (by kernel_rfl) (by decide) (fun K hK => ?_)
      go_simp
      refine hK.out _ _ (far5 HXd.out.gp hHeld (.int .i64 0) (.bool false) (.slice none 0 0) (.slice none 0 0) (.slice none 0 0)) (fun hHeld => ?_)
      clear hK K
      refine pure_ (i := 6) (N := some 5) (v := ?_) (a' := ?_) #[true, true, true, true, true, true, true, false] rfl rfl (by kernel_rfl) (fun _ _ _ h => h) (Or.inl ⟨by rfl, ?_⟩) ?_ ?_
      rotate_left
      · intro w'
        go_simp
        with_reducible rfl
      rotate_left
      · simp only [Act.put, List.setIfInBounds_toArray, List.set_cons_zero, List.set_cons_succ]
        rfl
      refine pure_ (i := 7) (N := some 6) (v := ?_) (a' := ?_) #[true, true, true, true, true, true, true, true] rfl rfl (by kernel_rfl) (fun _ _ _ h => h) (Or.inl ⟨by rfl, ?_⟩) ?_ ?_
      rotate_left
      · intro w'
        go_simp
        with_reducible rfl
      rotate_left
      · simp only [Act.put, List.setIfInBounds_toArray, List.set_cons_zero, List.set_cons_succ]
        rfl
      refine done_ (by kernel_rfl) ?_
      go_wp2_with fail
      have hbs := box_same HXd.out.bx (.int .i64 0) (.bool false) (.slice none 0 0) (.slice none 0 0) (.slice none 0 0)
      have hro := read_out HXd.out (.int .i64 0) (.bool false) (.slice none 0 0) (.slice none 0 0) (.slice none 0 0)
      refine bodyPost_ret (results_c2 rfl _ _ p 26 _ (0, 0) _ rfl hbs Try.underlying26 rfl (by kernel_rfl)) rfl ?_
      exact read_post HTT.out (z0_M _ w.heap.size) (GT_z0 64) hro
end Go.Proofs.Ythhajkmeadapgaa.Tree
/- nar: Decode, Split walked. Own work. -/
namespace Go.Proofs.Ythhajkmeadapgaa.Tree
set_option linter.unusedVariables false
set_option linter.unusedSimpArgs false
open Go.RowKit Go.Proofs.Ythhajkmeadapgaa.PL Go.Proofs.Ythhajkmeadapgaa.Mn Go.Proofs.YthhajkmeadapgaaW.PrintWords Go.Proofs.YthhajkmeadapgaaW.PrintLast Go.Proofs.YthhajkmeadapgaaW.PrintMore
theorem results_c1 {P : Program} {fn : Func} {p u : Tmp} {ty : TypeId} (h : fn.results = #[.cell p ty, .tmp u]) (tmps : Array Value) (w : World) (g : Nat) (t : TypeId) (cs : Array Value) (fr : Nat × Nat) (d : TypeDesc)
    (hp : tmps.getD p undef = .pointer (some ⟨g, 0, none⟩)) (hg : w.heap[g]? = some (.cells cs t fr))
    (hu : P.underlying ty = some d) (hd : (match d with | .struct _ | .array _ _ => true | _ => false) = true) (hi : (P.info? ty).map (·.size) = some cs.size) :
    (results fn tmps).run P w = .ok (.tuple #[.agg cs, tmps.getD u undef]) w := by
  have hp' : tmps[p]?.getD undef = .pointer (some ⟨g, 0, none⟩) := by simpa using hp
  simp [results, h, hp', asAddr, run_loadVar_row w g t ty cs fr d hg hu hd hi]
theorem dec_post {T : S26} {k : Int} {w w' : World} {cs : Array Value} (hM : k26.M w' w.heap.size (fun _ => True) T cs.toList) (hG : GT 65 T) (hb : Below w.heap.size w w') :
    ∃ cs', Ending.returned (.tuple #[.agg cs, .int .i64 k]) = .returned (.tuple #[.agg cs', .int .i64 k]) ∧ k26.M w' w.heap.size (fun _ => True) T cs'.toList ∧ GT 65 T ∧ Below w.heap.size w w' := ⟨cs, rfl, hM, hG, hb⟩
set_option maxRecDepth 20000 in
set_option maxHeartbeats 4000000 in
theorem Decode_any (A : Option Addr) (c : Nat) (b : List Int) (w : World) (hC : (Kd.int .u8).C w A b.length b) (hc : b.length ≤ c) (h8 : B8 b) (hl : b.length ≤ 1073741824) :
    Calls Try.prog 16 #[.slice A b.length c] w fun e w' => ∃ cs, e = .returned (.tuple #[.agg cs, .int .i64 (readS b true).2.2]) ∧ k26.M w' w.heap.size (fun _ => True) (readS b true).1 cs.toList ∧ GT 65 (readS b true).1 ∧ Below w.heap.size w w' := by
  have hwb := below_alloc (Below.refl w.heap.size w) (.cells #[.int .i64 0, .bool false, .slice none 0 0, .slice none 0 0, .slice none 0 0] 26)
  have HP1 := Aside0.mk (heap_alloc_new w (.cells #[.int .i64 0, .bool false, .slice none 0 0, .slice none 0 0, .slice none 0 0] 26))
  have HB1 := Aside0.mk hwb
  have HRD := Aside0.mk (read_any A c b true (w.alloc (.cells #[.int .i64 0, .bool false, .slice none 0 0, .slice none 0 0, .slice none 0 0] 26)) (Kd.C_below hC hwb) hc h8 hl)
  clear hwb hC h8
  obtain ⟨T, hT⟩ : ∃ q, readS b true = q := ⟨_, rfl⟩
  rw [hT] at HRD ⊢
  clear hT
  go_enter Try.func16, Try.ntmps16
  go_upto_region 1 with fail
  generalize (w.alloc (.cells #[.int .i64 0, .bool false, .slice none 0 0, .slice none 0 0, .slice none 0 0] 26)) = w1 at *
  obtain ⟨p, hp⟩ : ∃ q, w.heap.size = q := ⟨_, rfl⟩
  rw [hp] at HP1 ⊢
  have HP : Aside0 (w.heap.size = p) := ⟨hp⟩
  clear hp
  go_wp2_with fail
  refine HRD.out.mono ?_
  rintro e_ w2 ⟨cs, rfl, hM, hG, hb⟩
  obtain ⟨t, n, k⟩ := T
  simp only at hM hG ⊢
  obtain ⟨v2, v3, v4, hcs, hK2, hK3, hK4⟩ := k26_openM hM
  obtain ⟨q2, d2, rfl⟩ := Kd.R_slice hK2
  obtain ⟨q3, d3, rfl⟩ := Kd.R_slice hK3
  obtain ⟨q4, d4, rfl⟩ := Kd.R_slice hK4
  obtain ⟨cs, rfl⟩ : ∃ l : List Value, cs = l.toArray := ⟨cs.toList, by simp⟩
  simp only [List.toList_toArray] at hcs hM
  subst hcs
  have HM2 := Aside0.mk hM
  have HG2 := Aside0.mk hG
  have HP2 := Aside0.mk ((hb.block _ (blk_lt HP1.out)).trans HP1.out)
  have HB2 := Aside0.mk (below_then HB1.out HB1.out.size hb)
  have HLO : Aside0 (p < w1.heap.size ∧ w.heap.size ≤ w1.heap.size) := ⟨blk_lt HP1.out, HB1.out.size⟩
  clear hM hG hb hK2 hK3 hK4 HRD HP1
  have hb3 := below_alloc (Below.refl w2.heap.size w2) (.cells #[.int .i64 t.f0, .bool t.f1, .slice q2 t.f2.length d2, .slice q3 t.f3.length d3, .slice q4 t.f4.length d4] 26)
  have HT3 := Aside0.mk (heap_alloc_new w2 (.cells #[.int .i64 t.f0, .bool t.f1, .slice q2 t.f2.length d2, .slice q3 t.f3.length d3, .slice q4 t.f4.length d4] 26))
  have HP3 := Aside0.mk ((hb3.block _ (blk_lt HP2.out)).trans HP2.out)
  have HB3 := Aside0.mk (below_then HB2.out HB2.out.size hb3)
  have HM3 := Aside0.mk (Kd.M_below HM2.out hb3)
  clear hb3
  go_upto_region 2 with fail
  generalize (w2.alloc (.cells #[.int .i64 t.f0, .bool t.f1, .slice q2 t.f2.length d2, .slice q3 t.f3.length d3, .slice q4 t.f4.length d4] 26)) = w3 at *
  obtain ⟨tb, htb⟩ : ∃ q, w2.heap.size = q := ⟨_, rfl⟩
  rw [htb] at HT3 ⊢
  clear htb HP2 HB2 HM2
  obtain ⟨x0, x1, x2, x3, x4⟩ := cells5 HT3.out
  obtain ⟨b0, b1, b2, b3, b4⟩ := cells5 HP3.out
  have f0 := blk_frozen HP3.out 0
  have f1 := blk_frozen HP3.out 1
  have f2 := blk_frozen HP3.out 2
  have f3 := blk_frozen HP3.out 3
  have f4 := blk_frozen HP3.out 4
  go_wp2_with fail
  have hbs := box_same HP3.out (.int .i64 t.f0) (.bool t.f1) (.slice q2 t.f2.length d2) (.slice q3 t.f3.length d3) (.slice q4 t.f4.length d4)
  have hlp : w.heap.size ≤ p := by rw [HP.out]; exact Nat.le_refl _
  refine bodyPost_ret (results_c1 rfl _ _ p 26 _ (0, 0) _ rfl hbs Try.underlying26 rfl (by kernel_rfl)) rfl ?_
  exact dec_post (k26.M_lower HLO.out.2 (M_same HM3.out HLO.out.1)) HG2.out (below_set (below_set (below_set (below_set (below_set HB3.out hlp) hlp) hlp) hlp) hlp)
set_option maxRecDepth 20000 in
set_option maxHeartbeats 4000000 in
theorem Split_any (A : Option Addr) (c : Nat) (b : List Int) (w : World) (hC : (Kd.int .u8).C w A b.length b) (hc : b.length ≤ c) (h8 : B8 b) (hl : b.length ≤ 1073741824) :
    Calls Try.prog 20 #[.slice A b.length c] w fun e w' => e = .returned (.tuple #[.int .i64 ((readS b false).2.1 : Int), .int .i64 (readS b false).2.2]) ∧ Below w.heap.size w w' := by
  have HRD := Aside0.mk (read_any A c b false w hC hc h8 hl)
  clear hC h8
  obtain ⟨T, hT⟩ : ∃ q, readS b false = q := ⟨_, rfl⟩
  rw [hT] at HRD ⊢
  clear hT
  go_enter Try.func20, Try.ntmps20
  go_wp2_with fail
  refine HRD.out.mono ?_
  rintro e_ w2 ⟨cs, rfl, hM, hG, hb⟩
  obtain ⟨t, n, k⟩ := T
  simp only at hM hG ⊢
  obtain ⟨v2, v3, v4, hcs, hK2, hK3, hK4⟩ := k26_openM hM
  obtain ⟨q2, d2, rfl⟩ := Kd.R_slice hK2
  obtain ⟨q3, d3, rfl⟩ := Kd.R_slice hK3
  obtain ⟨q4, d4, rfl⟩ := Kd.R_slice hK4
  obtain ⟨cs, rfl⟩ : ∃ l : List Value, cs = l.toArray := ⟨cs.toList, by simp⟩
  simp only [List.toList_toArray] at hcs hM
  subst hcs
  have HB2 := Aside0.mk (below_then hb hb.size (below_alloc (Below.refl w2.heap.size w2) (.cells #[.int .i64 t.f0, .bool t.f1, .slice q2 t.f2.length d2, .slice q3 t.f3.length d3, .slice q4 t.f4.length d4] 26)))
  clear hM hG hb hK2 hK3 hK4 HRD
  go_wp2_with fail
  exact bodyPost_ret (v := .tuple #[.int .i64 (n : Int), .int .i64 k]) (by simp [results, Try.results20, go_sem]) rfl ⟨rfl, HB2.out⟩
end Go.Proofs.Ythhajkmeadapgaa.Tree
