/- nar's reader: node walked. Own work; printed by gen_dcf.py. -/
import Derived.Test.YthhajkmeadapgaaDcE
namespace Go.Proofs.Ythhajkmeadapgaa.Tree
set_option linter.unusedVariables false
set_option linter.unusedSimpArgs false
open Go.RowKit Go.Proofs.Ythhajkmeadapgaa.PL Go.Proofs.Ythhajkmeadapgaa.Mn Go.Proofs.YthhajkmeadapgaaW.PrintWords Go.Proofs.YthhajkmeadapgaaW.PrintLast Go.Proofs.YthhajkmeadapgaaW.PrintMore
theorem clone_any (A : Option Addr) (c : Nat) (l : List Int) (w : World) (hC : (Kd.int .u8).C w A l.length l) (hl : l.length ≤ 140737488355328) :
    Calls Try.prog 67 #[.slice A l.length c] w fun e w' => ∃ A' c', e = .returned (.slice A' l.length c') ∧ (Kd.int .u8).R 5 w' w.heap.size (fun _ => True) (.slice A' l.length c') l ∧ Below w.heap.size w w' := by
  cases A with
  | none =>
    have h0 : l.length = 0 := by
      rcases Nat.eq_zero_or_pos l.length with h | h
      · exact h
      · obtain ⟨ad, he, _⟩ := hC.2.2 h; cases he
    obtain rfl := List.length_eq_zero_iff.1 h0
    refine (Try.bytes_Clone_nil 0 c w).mono ?_
    rintro e w' ⟨rfl, rfl⟩
    exact ⟨none, 0, rfl, Kd.R_nil _ _ _ _ _, Below.refl _ _⟩
  | some a =>
    refine (Try.bytes_Clone_at a l.length c l w rfl hl (fun i hi => ?_)).mono ?_
    · obtain ⟨ad, he, hcs⟩ := Kd.at_int hC (i : Int) (by omega) (by omega)
      injection he with he
      subst he
      rw [Int.toNat_natCast, rd_nat] at hcs
      exact hcs
    · rintro e w' ⟨v, rfl, ho, _, hb⟩
      have hR : (Kd.int .u8).R 5 w' w.heap.size (fun _ => True) v l := Kd.R_of_own (enc := Value.int .u8) (h1 := fun _ => rfl) ho (fun _ _ => trivial)
      obtain ⟨A', c', rfl⟩ := Kd.R_slice hR
      exact ⟨A', c', rfl, hR, hb⟩
/-- what node's walk keeps: the reader, its own box -/
structure BX (w0 w wr : World) (g p : Nat) (s : RS) (n : Nat) (cs : Array Value) : Prop where
  rd : RD w0 wr g s n
  bx : wr.heap[p]? = some (.cells cs 26 (0, 0))
  kp : KeepBut w wr g none
  np : p ≠ g
  lp : w.heap.size ≤ p
  lg : g < w.heap.size
theorem BX.keep {w0 w wr w2 : World} {g p : Nat} {s s2 : RS} {n n2 : Nat} {cs : Array Value} (h : BX w0 w wr g p s n cs) (hr : RD w0 w2 g s2 n2) (hk : KeepBut wr w2 g none) : BX w0 w w2 g p s2 n2 cs :=
  ⟨hr, hk.blk h.bx h.np (by simp), h.kp.trans hk (.inl rfl), h.np, h.lp, h.lg⟩
theorem BX.below {w0 w wr w2 : World} {g p : Nat} {s : RS} {n : Nat} {cs : Array Value} (h : BX w0 w wr g p s n cs) (hb : Below wr.heap.size wr w2) : BX w0 w w2 g p s n cs :=
  h.keep (h.rd.keep hb) (KeepBut.of_below hb g none)
theorem RD.far {w0 w : World} {g p : Nat} {s : RS} {n : Nat} (h : RD w0 w g s n) (hp : p ≠ g) (h0 : w0.heap.size ≤ p) (j : Nat) (v : Value) : RD w0 (w.setCell ⟨p, j, none⟩ v) g s n := by
  obtain ⟨A, c, h1, h2, h3⟩ := h.blk
  exact ⟨⟨A, c, blk_far h1 (p := ⟨p, j, none⟩) (fun e => hp e.symm) v, h2, h3⟩, below_set h.b h0, h.lo, h.b8⟩
theorem BX.set {w0 w wr : World} {g p : Nat} {s : RS} {n : Nat} {cs : Array Value} (h : BX w0 w wr g p s n cs) (j : Nat) (v : Value) : BX w0 w (wr.setCell ⟨p, j, none⟩ v) g p s n (cs.setIfInBounds j v) where
  rd := h.rd.far h.np (by have := h.rd.b.size; have := h.rd.lo; have := h.lp; have := h.lg; omega) j v
  bx := by simpa using blk_set h.bx j v
  kp := ⟨by simpa [World.setCell] using h.kp.1, fun i hi hg hr => (Below.heap_setCell wr ⟨p, j, none⟩ v i (by have := h.lp; show i ≠ p; omega)).trans (h.kp.2 i hi hg hr)⟩
  np := h.np
  lp := h.lp
  lg := h.lg
theorem data_keep {wr w2 : World} {g lo : Nat} {v : Value} {l : List Int} (h : (Kd.int .u8).R 5 wr lo (fun _ => True) v l) (hk : KeepBut wr w2 g none) (hg : g < lo) : (Kd.int .u8).R 5 w2 lo (fun _ => True) v l :=
  Kd.R_mono (Kd.R_keep (Kd.R_bound h) hk (fun k hk => by omega)) (fun _ _ => trivial)
theorem data_far {wr : World} {p lo j : Nat} {u v : Value} {l : List Int} (h : (Kd.int .u8).R 5 wr lo (fun _ => True) v l) (hp : p < lo) : (Kd.int .u8).R 5 (wr.setCell ⟨p, j, none⟩ u) lo (fun _ => True) v l :=
  Kd.R_mono (Kd.R_far (Kd.R_bound h) (p := ⟨p, j, none⟩) (fun k hk => by show k ≠ p; omega) u) (fun _ _ => trivial)
theorem wd1_bad {s : RS} (h : s.2 ≠ 0) (w : ByteArray) : wd1 s w = s := by unfold wd1; rw [txS_bad h, if_neg (fun hh => h hh.1)]
theorem wdS_bad {s : RS} (h : s.2 ≠ 0) (ss : List ByteArray) : wdS s ss = s := by
  induction ss with
  | nil => rfl
  | cons w ss ih => show wdS (wd1 s w) ss = s; rw [wd1_bad h, ih]
abbrev z0 : S26 := ⟨0, false, [], [], []⟩
theorem nodeS_go {F deep n : Nat} {s q : RS} {l : List Int} (h : ¬ (s.2 = 0 ∧ (65536 < n + 1 ∨ 64 < deep))) (hk : txS (wdS s [sL, sType]) = (l, q)) :
    nodeS (F + 1) deep (s, n) = if q.2 ≠ 0 then (z0, q, n + 1) else if l = bytesOf sReg then (⟨1, (regS q).1, (regS q).2.1, [], []⟩, (regS q).2.2, n + 1) else if l = bytesOf sSym then (⟨3, false, (symS q).1, [], []⟩, (symS q).2, n + 1)
      else if l = bytesOf sDir then (⟨2, false, [], (entS (nodeS F (deep + 1)) (q.1.length + 1) (q, n + 1) ([], [])).1.1, (entS (nodeS F (deep + 1)) (q.1.length + 1) (q, n + 1) ([], [])).1.2⟩, (entS (nodeS F (deep + 1)) (q.1.length + 1) (q, n + 1) ([], [])).2.1, (entS (nodeS F (deep + 1)) (q.1.length + 1) (q, n + 1) ([], [])).2.2)
      else (z0, flS q 3, n + 1) := by
  simp only [nodeS]
  rw [if_neg h, hk]
theorem nodeS_bad {F deep n : Nat} {s : RS} (h : s.2 ≠ 0) : nodeS (F + 1) deep (s, n) = (z0, s, n + 1) := by
  rw [nodeS_go (fun hh => h hh.1) (by rw [wdS_bad h, txS_bad h]), if_pos h]
theorem nodeS_long {F deep n : Nat} {s : RS} (h : s.2 = 0 ∧ (65536 < n + 1 ∨ 64 < deep)) : nodeS (F + 1) deep (s, n) = (z0, (s.1, 5), n + 1) := by
  have h5 : ((s.1, 5) : RS).2 ≠ 0 := by show (5 : Int) ≠ 0; decide
  simp only [nodeS]
  rw [if_pos h, wdS_bad h5, txS_bad h5, if_pos h5]
theorem GT_z0 (F : Nat) : GT (F + 1) z0 := ⟨by decide, ⟨by simp, by simp, fun x h => by cases h⟩, ⟨by simp, by simp, fun x h => by cases h⟩, by simp, by simp, fun x h => by cases h⟩
theorem BX.same {w0 w wr : World} {g p : Nat} {s : RS} {n : Nat} {a b c d e : Value} (h : BX w0 w wr g p s n #[a, b, c, d, e]) : BX w0 w (((((wr.setCell ⟨p, 0, none⟩ a).setCell ⟨p, 1, none⟩ b).setCell ⟨p, 2, none⟩ c).setCell ⟨p, 3, none⟩ d).setCell ⟨p, 4, none⟩ e) g p s n #[a, b, c, d, e] := by
  have := ((((h.set 0 a).set 1 b).set 2 c).set 3 d).set 4 e
  simpa using this
theorem M_same {wr : World} {p lo : Nat} {a b c d e : Value} {x : S26} {cs : List Value} (h : k26.M wr lo (fun _ => True) x cs) (hp : p < lo) :
    k26.M (((((wr.setCell ⟨p, 0, none⟩ a).setCell ⟨p, 1, none⟩ b).setCell ⟨p, 2, none⟩ c).setCell ⟨p, 3, none⟩ d).setCell ⟨p, 4, none⟩ e) lo (fun _ => True) x cs := by
  have st : ∀ {W : World} (j : Nat) (v : Value), k26.M W lo (fun _ => True) x cs → k26.M (W.setCell ⟨p, j, none⟩ v) lo (fun _ => True) x cs := fun j v h =>
    k26.M_mono (fun _ _ => trivial) (Kd.M_far (k26.M_bound h) (p := ⟨p, j, none⟩) (fun k hk => by show k ≠ p; omega) v)
  exact st 4 e (st 3 d (st 2 c (st 1 b (st 0 a h))))
theorem ND_post {T : S26 × RS × Nat} {w0 w w' : World} {g F m : Nat} {x : S26} {q : RS} {cs : Array Value} (hT : T = (x, q, m)) (hM : k26.M w' w.heap.size (fun _ => True) x cs.toList) (hG : GT F x) (hr : RD w0 w' g q m) (hk : KeepBut w w' g none) :
    ∃ cs', Ending.returned (.agg cs) = .returned (.agg cs') ∧ k26.M w' w.heap.size (fun _ => True) T.1 cs'.toList ∧ GT F T.1 ∧ RD w0 w' g T.2.1 T.2.2 ∧ KeepBut w w' g none := by
  subst hT
  exact ⟨cs, rfl, hM, hG, hr, hk⟩
theorem z0_M (W : World) (lo : Nat) : k26.M W lo (fun _ => True) z0 [.int .i64 0, .bool false, .slice none 0 0, .slice none 0 0, .slice none 0 0] :=
  k26_mkM W lo _ z0 (Kd.R_nil _ _ _ _ _) (Kd.R_nil _ _ _ _ _) (Kd.R_nil _ _ _ _ _)
theorem data_M {W : World} {lo : Nat} {k : Int} {ex : Bool} {A : Option Addr} {c : Nat} {l : List Int} (h : (Kd.int .u8).R 5 W lo (fun _ => True) (.slice A l.length c) l) : k26.M W lo (fun _ => True) ⟨k, ex, l, [], []⟩ [.int .i64 k, .bool ex, .slice A l.length c, .slice none 0 0, .slice none 0 0] :=
  k26_mkM W lo _ ⟨k, ex, l, [], []⟩ h (Kd.R_nil _ _ _ _ _) (Kd.R_nil _ _ _ _ _)
theorem wf_B8 {l : List Int} (h : B8 l) : ∀ x ∈ l, (Lit.int .u8 x).wf = true := fun x hx => by
  have := h x hx
  simp [Lit.wf, IntKind.min, IntKind.max, IntKind.signed, IntKind.bits]
  omega
theorem data_G {F : Nat} {k : Int} {ex : Bool} {l : List Int} (hk : (Lit.int .i64 k).wf = true) (h : B8 l) (hl : l.length ≤ 1073741824) : GT (F + 1) ⟨k, ex, l, [], []⟩ :=
  ⟨hk, ⟨by show l.length ≤ maxLen; simp [maxLen]; omega, by show l.length * 1 ≤ _; omega, wf_B8 h⟩, ⟨by simp, by simp, fun x h => by cases h⟩, by simp, by simp, fun x h => by cases h⟩
theorem regS_of {s s1 s3 s4 s5 : RS} {ex : Bool} {x d : List Int} (ha : (if (txS s).2.2 = 0 ∧ (txS s).1 = bytesOf sExec then (true, (txS (wdS (txS s).2 [sEmpty])).1, (txS (wdS (txS s).2 [sEmpty])).2) else (false, (txS s).1, (txS s).2)) = (ex, x, s1))
    (h3 : (if s1.2 = 0 ∧ x ≠ bytesOf sCont then (s1.1, 3) else s1) = s3) (hd : txS s3 = (d, s4)) (hw : wdS s4 [sR] = s5) : regS s = (ex, d, s5) := by
  unfold regS
  simp only
  rw [ha]
  simp only
  rw [h3, hd, hw]
theorem symS_of {s s1 s4 s5 : RS} {d : List Int} (h3 : wdS s [sTarget] = s1) (hd : txS s1 = (d, s4)) (hw : wdS s4 [sR] = s5) : symS s = (d, s5) := by
  unfold symS
  rw [h3, hd, hw]
theorem kept_but {w W w' : World} {g p : Nat} (h1 : KeepBut w W g none) (h2 : Kept W w' (fun k => k = g ∨ k = p)) (hp : w.heap.size ≤ p) : KeepBut w w' g none := Kept.keepG h1 h2 (fun k hk => hk.imp id (fun h => by omega))
set_option maxRecDepth 20000 in
set_option maxHeartbeats 4000000 in
theorem node_bad (w0 : World) (g F : Nat) (deep : Nat) (s : RS) (n : Nat) (w : World) (hd : deep + F = 65) (hR : RD w0 w g s n) (hl : s.1.length ≤ 1073741824) (hn : n + s.1.length ≤ 1099511627776) (hs : s.2 ≠ 0) :
    Calls Try.prog 47 #[.pointer (some ⟨g, 0, none⟩), .int .i64 (deep : Int)] w fun e w' => ∃ cs, e = .returned (.agg cs) ∧ k26.M w' w.heap.size (fun _ => True) (nodeS (F + 1) deep (s, n)).1 cs.toList ∧ GT (F + 1) (nodeS (F + 1) deep (s, n)).1 ∧ RD w0 w' g (nodeS (F + 1) deep (s, n)).2.1 (nodeS (F + 1) deep (s, n)).2.2 ∧ KeepBut w w' g none := by
  obtain ⟨T, hT⟩ : ∃ q, nodeS (F + 1) deep (s, n) = q := ⟨_, rfl⟩
  rw [hT]
  have HT := Aside0.mk hT
  clear hT
  have hgl : g < w.heap.size := by obtain ⟨A, c, h1, -, -⟩ := hR.blk; exact blk_lt h1
  have HBX : Aside0 (BX w0 w (w.alloc (.cells #[.int .i64 0, .bool false, .slice none 0 0, .slice none 0 0, .slice none 0 0] 26)) g w.heap.size s n #[.int .i64 0, .bool false, .slice none 0 0, .slice none 0 0, .slice none 0 0]) :=
    ⟨⟨hR.keep (below_alloc (Below.refl _ w) _), heap_alloc_new w _, KeepBut.of_below (below_alloc (Below.refl _ w) _) g none, by omega, Nat.le_refl _, hgl⟩⟩
  have he1 : (s.2 == 0) = false := by simpa using hs
  have he2 : (s.2 != 0) = true := by simpa using hs
  have HW := Aside0.mk (wdS_bad hs [sL, sType])
  have HX := Aside0.mk (txS_bad hs)
  have HTQ : Aside0 (T = (z0, s, n + 1)) := ⟨by rw [← HT.out]; exact nodeS_bad hs⟩
  clear hs
  clear hR hgl
  go_enter Try.func47, Try.ntmps47
  go_upto_region 1 with fail
  generalize (w.alloc (.cells #[.int .i64 0, .bool false, .slice none 0 0, .slice none 0 0, .slice none 0 0] 26)) = w1 at *
  obtain ⟨p, hp⟩ : ∃ q, w.heap.size = q := ⟨_, rfl⟩
  rw [hp] at HBX ⊢
  have HP : Aside0 (w.heap.size = p) := ⟨hp⟩
  clear hp
  obtain ⟨A, c, hblk, hc, hC⟩ := HBX.out.rd.blk
  obtain ⟨⟨p0, p1, p2⟩, q0, q1, q2⟩ := cells3 hblk
  have hst : RD w0 (w1.setCell ⟨g, 2, none⟩ (.int .i64 ((n : Int) + 1))) g s (n + 1) := ⟨⟨A, c, by simpa using blk_set hblk 2 (.int .i64 ((n : Int) + 1)), hc, hC⟩, below_set HBX.out.rd.b HBX.out.rd.lo, HBX.out.rd.lo, HBX.out.rd.b8⟩
  have HB := Aside0.mk (HBX.out.keep hst (KeepBut.set_ (KeepBut.refl w1 g none) 2 _))
  clear hst hblk hc hC
  go_upto_region 2 with fail
  clear p0 p1 p2 q0 q1 q2 HBX
  generalize (w1.setCell ⟨g, 2, none⟩ (.int .i64 ((n : Int) + 1))) = w2 at *
  obtain ⟨Ar, cr, hblk, -, -⟩ := HB.out.rd.blk
  obtain ⟨⟨-, pe, -⟩, -⟩ := cells3 hblk
  clear hblk
  have HBa := Aside0.mk (HB.out.below (below_alloc (Below.refl _ w2) (.cells ([sL, sType].map Value.string).toArray 9)))
  have HGL : Aside0 (w2.heap.size ≠ g) := ⟨by have := HB.out.lg; have := HB.out.kp.1; omega⟩
  go_wp2_with fail
  refine (word_any w0 (w2.alloc (.cells ([sL, sType].map Value.string).toArray 9)) g s (n + 1) (some ⟨w2.heap.size, 0, none⟩) 2 [sL, sType] HBa.out.rd (by omega) (lit_C (by omega) (n := 2) rfl HGL.out 9) (by decide)).mono ?_
  rintro e_ w3 ⟨rfl, hr, hk⟩
  clear HB
  have HB := Aside0.mk (HBa.out.keep hr hk)
  clear HBa hr hk HGL
  rw [HW.out] at HB
  clear pe
  go_wp2_with fail
  refine (text_any w0 w3 g s (n + 1) HB.out.rd (by omega)).mono ?_
  rintro e_ w4 ⟨Ak, ck, rfl, hc, hC, hr, hk, h8⟩
  have HBn := Aside0.mk (HB.out.keep hr hk)
  clear HB
  have HB := HBn
  clear HBn
  have HXk := Aside0.mk (And.intro hc (And.intro hC h8))
  clear hc hC hr hk h8
  have hlenk := txS_len s
  obtain ⟨lk, hl1⟩ : ∃ q, (txS s).1 = q := ⟨_, rfl⟩
  obtain ⟨sk, hs1⟩ : ∃ q, (txS s).2 = q := ⟨_, rfl⟩
  have HSk : Aside0 (txS s = (lk, sk)) := ⟨by rw [← hl1, ← hs1]⟩
  rw [hl1] at HXk hlenk ⊢
  rw [hs1] at HB hlenk
  clear hl1 hs1
  have hq : sk = s := by have := HSk.out; rw [HX.out] at this; exact (Prod.mk.inj this).2.symm
  rw [hq] at HB
  clear hq
  have hcv := Kd.C_string (src := 22) (dst := 9) (c := ck) Try.underlying22 Try.underlying5 Try.underlying9 (Kd.C_below HXk.out.2.1 HB.out.rd.b)
  obtain ⟨Ar, cr, hblk, -, -⟩ := HB.out.rd.blk
  obtain ⟨⟨-, pe, -⟩, -⟩ := cells3 hblk
  clear hblk
  obtain ⟨b0, b1, b2, b3, b4⟩ := cells5 HB.out.bx
  have f0 := blk_frozen HB.out.bx 0
  have f1 := blk_frozen HB.out.bx 1
  have f2 := blk_frozen HB.out.bx 2
  have f3 := blk_frozen HB.out.bx 3
  have f4 := blk_frozen HB.out.bx 4
  have HF := Aside0.mk HB.out.same
  have HM := Aside0.mk (z0_M w4 (p + 1))
  have HLO : Aside0 (p < (p + 1) ∧ w.heap.size ≤ (p + 1)) := ⟨And.intro (Nat.lt_succ_self p) (by rw [HP.out]; exact Nat.le_succ p)⟩
  have HG := Aside0.mk (GT_z0 F)
  have HTT := Aside0.mk (HTQ.out)
  go_wp2_with fail
  exact bodyPost_ret (results_cell_row rfl _ _ p 26 _ (0, 0) _ rfl HF.out.bx Try.underlying26 rfl (by kernel_rfl)) rfl (ND_post HTT.out (k26.M_lower HLO.out.2 (M_same HM.out HLO.out.1)) HG.out HF.out.rd HF.out.kp)
set_option maxRecDepth 20000 in
set_option maxHeartbeats 4000000 in
theorem node_long (w0 : World) (g F : Nat) (deep : Nat) (s : RS) (n : Nat) (w : World) (hd : deep + F = 65) (hR : RD w0 w g s n) (hl : s.1.length ≤ 1073741824) (hn : n + s.1.length ≤ 1099511627776) (hs : s.2 = 0) (hq : 65536 < n + 1 ∨ 64 < deep) :
    Calls Try.prog 47 #[.pointer (some ⟨g, 0, none⟩), .int .i64 (deep : Int)] w fun e w' => ∃ cs, e = .returned (.agg cs) ∧ k26.M w' w.heap.size (fun _ => True) (nodeS (F + 1) deep (s, n)).1 cs.toList ∧ GT (F + 1) (nodeS (F + 1) deep (s, n)).1 ∧ RD w0 w' g (nodeS (F + 1) deep (s, n)).2.1 (nodeS (F + 1) deep (s, n)).2.2 ∧ KeepBut w w' g none := by
  obtain ⟨T, hT⟩ : ∃ q, nodeS (F + 1) deep (s, n) = q := ⟨_, rfl⟩
  rw [hT]
  have HT := Aside0.mk hT
  clear hT
  have hgl : g < w.heap.size := by obtain ⟨A, c, h1, -, -⟩ := hR.blk; exact blk_lt h1
  have HBX : Aside0 (BX w0 w (w.alloc (.cells #[.int .i64 0, .bool false, .slice none 0 0, .slice none 0 0, .slice none 0 0] 26)) g w.heap.size s n #[.int .i64 0, .bool false, .slice none 0 0, .slice none 0 0, .slice none 0 0]) :=
    ⟨⟨hR.keep (below_alloc (Below.refl _ w) _), heap_alloc_new w _, KeepBut.of_below (below_alloc (Below.refl _ w) _) g none, by omega, Nat.le_refl _, hgl⟩⟩
  have h5 : ((s.1, 5) : RS).2 ≠ 0 := by show (5 : Int) ≠ 0; decide
  have HW := Aside0.mk (wdS_bad h5 [sL, sType])
  have HX := Aside0.mk (txS_bad h5)
  have HTQ : Aside0 (T = (z0, (s.1, 5), n + 1)) := ⟨by rw [← HT.out]; exact nodeS_long ⟨hs, hq⟩⟩
  have HFL : Aside0 (flS s 5 = (s.1, 5)) := ⟨by unfold flS; rw [if_pos hs]⟩
  have HS0 := Aside0.mk hs
  clear h5 hs
  clear hR hgl
  go_enter Try.func47, Try.ntmps47
  go_upto_region 1 with fail
  generalize (w.alloc (.cells #[.int .i64 0, .bool false, .slice none 0 0, .slice none 0 0, .slice none 0 0] 26)) = w1 at *
  obtain ⟨p, hp⟩ : ∃ q, w.heap.size = q := ⟨_, rfl⟩
  rw [hp] at HBX ⊢
  have HP : Aside0 (w.heap.size = p) := ⟨hp⟩
  clear hp
  obtain ⟨A, c, hblk, hc, hC⟩ := HBX.out.rd.blk
  obtain ⟨⟨p0, p1, p2⟩, q0, q1, q2⟩ := cells3 hblk
  have hst : RD w0 (w1.setCell ⟨g, 2, none⟩ (.int .i64 ((n : Int) + 1))) g s (n + 1) := ⟨⟨A, c, by simpa using blk_set hblk 2 (.int .i64 ((n : Int) + 1)), hc, hC⟩, below_set HBX.out.rd.b HBX.out.rd.lo, HBX.out.rd.lo, HBX.out.rd.b8⟩
  have HB := Aside0.mk (HBX.out.keep hst (KeepBut.set_ (KeepBut.refl w1 g none) 2 _))
  clear hst hblk hc hC
  go_upto_region 2 with fail
  clear p0 p1 p2 q0 q1 q2 HBX
  generalize (w1.setCell ⟨g, 2, none⟩ (.int .i64 ((n : Int) + 1))) = w2 at *
  obtain ⟨Ar, cr, hblk, -, -⟩ := HB.out.rd.blk
  obtain ⟨⟨-, pe, pn⟩, -⟩ := cells3 hblk
  rw [show (((n + 1 : Nat)) : Int) = (n : Int) + 1 from by omega] at pn
  clear hblk
  rw [HS0.out] at pe
  by_cases h1 : 65536 < n + 1
  · have h1' : (65536 : Int) < (n : Int) + 1 := by omega
    clear hq
    go_wp2_with fail
    refine (fail_any w0 w2 g s (n + 1) 5 HB.out.rd).mono ?_
    rintro e_ w3 ⟨rfl, hr, hk⟩
    have HBn := Aside0.mk (HB.out.keep hr hk)
    clear HB hr hk pe pn
    have HB := HBn
    clear HBn
    rw [HFL.out] at HB
    have hl5 : ((s.1, 5) : RS).1.length ≤ 1073741824 := hl
    obtain ⟨s5, hs5⟩ : ∃ q, ((s.1, 5) : RS) = q := ⟨_, rfl⟩
    rw [hs5] at HB HW HX HTQ hl5
    have he5 : s5.2 = 5 := by rw [← hs5]
    have he2 : (s5.2 != 0) = true := by rw [he5]; rfl
    clear hs5 he5
    obtain ⟨Ar, cr, hblk, -, -⟩ := HB.out.rd.blk
    obtain ⟨⟨-, pe, -⟩, -⟩ := cells3 hblk
    clear hblk
    have HBa := Aside0.mk (HB.out.below (below_alloc (Below.refl _ w3) (.cells ([sL, sType].map Value.string).toArray 9)))
    have HGL : Aside0 (w3.heap.size ≠ g) := ⟨by have := HB.out.lg; have := HB.out.kp.1; omega⟩
    go_wp2_with fail
    refine (word_any w0 (w3.alloc (.cells ([sL, sType].map Value.string).toArray 9)) g s5 (n + 1) (some ⟨w3.heap.size, 0, none⟩) 2 [sL, sType] HBa.out.rd (by omega) (lit_C (by omega) (n := 2) rfl HGL.out 9) (by decide)).mono ?_
    rintro e_ w4 ⟨rfl, hr, hk⟩
    clear HB
    have HB := Aside0.mk (HBa.out.keep hr hk)
    clear HBa hr hk HGL
    rw [HW.out] at HB
    clear pe
    go_wp2_with fail
    refine (text_any w0 w4 g s5 (n + 1) HB.out.rd (by omega)).mono ?_
    rintro e_ w5 ⟨Ak, ck, rfl, hc, hC, hr, hk, h8⟩
    have HBn := Aside0.mk (HB.out.keep hr hk)
    clear HB
    have HB := HBn
    clear HBn
    have HXk := Aside0.mk (And.intro hc (And.intro hC h8))
    clear hc hC hr hk h8
    have hlenk := txS_len s5
    obtain ⟨lk, hl1⟩ : ∃ q, (txS s5).1 = q := ⟨_, rfl⟩
    obtain ⟨sk, hs1⟩ : ∃ q, (txS s5).2 = q := ⟨_, rfl⟩
    have HSk : Aside0 (txS s5 = (lk, sk)) := ⟨by rw [← hl1, ← hs1]⟩
    rw [hl1] at HXk hlenk ⊢
    rw [hs1] at HB hlenk
    clear hl1 hs1
    have hq : sk = s5 := by have := HSk.out; rw [HX.out] at this; exact (Prod.mk.inj this).2.symm
    rw [hq] at HB
    clear hq
    have hcv := Kd.C_string (src := 22) (dst := 9) (c := ck) Try.underlying22 Try.underlying5 Try.underlying9 (Kd.C_below HXk.out.2.1 HB.out.rd.b)
    obtain ⟨Ar, cr, hblk, -, -⟩ := HB.out.rd.blk
    obtain ⟨⟨-, pe, -⟩, -⟩ := cells3 hblk
    clear hblk
    obtain ⟨b0, b1, b2, b3, b4⟩ := cells5 HB.out.bx
    have f0 := blk_frozen HB.out.bx 0
    have f1 := blk_frozen HB.out.bx 1
    have f2 := blk_frozen HB.out.bx 2
    have f3 := blk_frozen HB.out.bx 3
    have f4 := blk_frozen HB.out.bx 4
    have HF := Aside0.mk HB.out.same
    have HM := Aside0.mk (z0_M w5 (p + 1))
    have HLO : Aside0 (p < (p + 1) ∧ w.heap.size ≤ (p + 1)) := ⟨And.intro (Nat.lt_succ_self p) (by rw [HP.out]; exact Nat.le_succ p)⟩
    have HG := Aside0.mk (GT_z0 F)
    have HTT := Aside0.mk (HTQ.out)
    go_wp2_with fail
    exact bodyPost_ret (results_cell_row rfl _ _ p 26 _ (0, 0) _ rfl HF.out.bx Try.underlying26 rfl (by kernel_rfl)) rfl (ND_post HTT.out (k26.M_lower HLO.out.2 (M_same HM.out HLO.out.1)) HG.out HF.out.rd HF.out.kp)
  · have h1' : ¬ (65536 : Int) < (n : Int) + 1 := by omega
    have h2' : (64 : Int) < (deep : Int) := by omega
    clear hq
    go_wp2_with fail
    refine (fail_any w0 w2 g s (n + 1) 5 HB.out.rd).mono ?_
    rintro e_ w3 ⟨rfl, hr, hk⟩
    have HBn := Aside0.mk (HB.out.keep hr hk)
    clear HB hr hk pe pn
    have HB := HBn
    clear HBn
    rw [HFL.out] at HB
    have hl5 : ((s.1, 5) : RS).1.length ≤ 1073741824 := hl
    obtain ⟨s5, hs5⟩ : ∃ q, ((s.1, 5) : RS) = q := ⟨_, rfl⟩
    rw [hs5] at HB HW HX HTQ hl5
    have he5 : s5.2 = 5 := by rw [← hs5]
    have he2 : (s5.2 != 0) = true := by rw [he5]; rfl
    clear hs5 he5
    obtain ⟨Ar, cr, hblk, -, -⟩ := HB.out.rd.blk
    obtain ⟨⟨-, pe, -⟩, -⟩ := cells3 hblk
    clear hblk
    have HBa := Aside0.mk (HB.out.below (below_alloc (Below.refl _ w3) (.cells ([sL, sType].map Value.string).toArray 9)))
    have HGL : Aside0 (w3.heap.size ≠ g) := ⟨by have := HB.out.lg; have := HB.out.kp.1; omega⟩
    go_wp2_with fail
    refine (word_any w0 (w3.alloc (.cells ([sL, sType].map Value.string).toArray 9)) g s5 (n + 1) (some ⟨w3.heap.size, 0, none⟩) 2 [sL, sType] HBa.out.rd (by omega) (lit_C (by omega) (n := 2) rfl HGL.out 9) (by decide)).mono ?_
    rintro e_ w4 ⟨rfl, hr, hk⟩
    clear HB
    have HB := Aside0.mk (HBa.out.keep hr hk)
    clear HBa hr hk HGL
    rw [HW.out] at HB
    clear pe
    go_wp2_with fail
    refine (text_any w0 w4 g s5 (n + 1) HB.out.rd (by omega)).mono ?_
    rintro e_ w5 ⟨Ak, ck, rfl, hc, hC, hr, hk, h8⟩
    have HBn := Aside0.mk (HB.out.keep hr hk)
    clear HB
    have HB := HBn
    clear HBn
    have HXk := Aside0.mk (And.intro hc (And.intro hC h8))
    clear hc hC hr hk h8
    have hlenk := txS_len s5
    obtain ⟨lk, hl1⟩ : ∃ q, (txS s5).1 = q := ⟨_, rfl⟩
    obtain ⟨sk, hs1⟩ : ∃ q, (txS s5).2 = q := ⟨_, rfl⟩
    have HSk : Aside0 (txS s5 = (lk, sk)) := ⟨by rw [← hl1, ← hs1]⟩
    rw [hl1] at HXk hlenk ⊢
    rw [hs1] at HB hlenk
    clear hl1 hs1
    have hq : sk = s5 := by have := HSk.out; rw [HX.out] at this; exact (Prod.mk.inj this).2.symm
    rw [hq] at HB
    clear hq
    have hcv := Kd.C_string (src := 22) (dst := 9) (c := ck) Try.underlying22 Try.underlying5 Try.underlying9 (Kd.C_below HXk.out.2.1 HB.out.rd.b)
    obtain ⟨Ar, cr, hblk, -, -⟩ := HB.out.rd.blk
    obtain ⟨⟨-, pe, -⟩, -⟩ := cells3 hblk
    clear hblk
    obtain ⟨b0, b1, b2, b3, b4⟩ := cells5 HB.out.bx
    have f0 := blk_frozen HB.out.bx 0
    have f1 := blk_frozen HB.out.bx 1
    have f2 := blk_frozen HB.out.bx 2
    have f3 := blk_frozen HB.out.bx 3
    have f4 := blk_frozen HB.out.bx 4
    have HF := Aside0.mk HB.out.same
    have HM := Aside0.mk (z0_M w5 (p + 1))
    have HLO : Aside0 (p < (p + 1) ∧ w.heap.size ≤ (p + 1)) := ⟨And.intro (Nat.lt_succ_self p) (by rw [HP.out]; exact Nat.le_succ p)⟩
    have HG := Aside0.mk (GT_z0 F)
    have HTT := Aside0.mk (HTQ.out)
    go_wp2_with fail
    exact bodyPost_ret (results_cell_row rfl _ _ p 26 _ (0, 0) _ rfl HF.out.bx Try.underlying26 rfl (by kernel_rfl)) rfl (ND_post HTT.out (k26.M_lower HLO.out.2 (M_same HM.out HLO.out.1)) HG.out HF.out.rd HF.out.kp)
end Go.Proofs.Ythhajkmeadapgaa.Tree
/- nar's reader: node walked, its main road. Own work; printed by gen_dcf.py. -/
namespace Go.Proofs.Ythhajkmeadapgaa.Tree
set_option linter.unusedVariables false
set_option linter.unusedSimpArgs false
open Go.RowKit Go.Proofs.Ythhajkmeadapgaa.PL Go.Proofs.Ythhajkmeadapgaa.Mn Go.Proofs.YthhajkmeadapgaaW.PrintWords Go.Proofs.YthhajkmeadapgaaW.PrintLast Go.Proofs.YthhajkmeadapgaaW.PrintMore
set_option maxRecDepth 20000 in
set_option maxHeartbeats 4000000 in
theorem node_main (w0 : World) (g F : Nat) (deep : Nat) (s : RS) (n : Nat) (w : World) (hd : deep + F = 65) (hR : RD w0 w g s n) (hl : s.1.length ≤ 1073741824) (hn : n + s.1.length ≤ 1099511627776) (ih : NDC w0 g F) (hs : s.2 = 0) (hq : ¬ (65536 < n + 1 ∨ 64 < deep)) :
    Calls Try.prog 47 #[.pointer (some ⟨g, 0, none⟩), .int .i64 (deep : Int)] w fun e w' => ∃ cs, e = .returned (.agg cs) ∧ k26.M w' w.heap.size (fun _ => True) (nodeS (F + 1) deep (s, n)).1 cs.toList ∧ GT (F + 1) (nodeS (F + 1) deep (s, n)).1 ∧ RD w0 w' g (nodeS (F + 1) deep (s, n)).2.1 (nodeS (F + 1) deep (s, n)).2.2 ∧ KeepBut w w' g none := by
  have IH := Aside0.mk ih
  clear ih
  obtain ⟨T, hT⟩ : ∃ q, nodeS (F + 1) deep (s, n) = q := ⟨_, rfl⟩
  rw [hT]
  have HT := Aside0.mk hT
  clear hT
  have hgl : g < w.heap.size := by obtain ⟨A, c, h1, -, -⟩ := hR.blk; exact blk_lt h1
  have HBX : Aside0 (BX w0 w (w.alloc (.cells #[.int .i64 0, .bool false, .slice none 0 0, .slice none 0 0, .slice none 0 0] 26)) g w.heap.size s n #[.int .i64 0, .bool false, .slice none 0 0, .slice none 0 0, .slice none 0 0]) :=
    ⟨⟨hR.keep (below_alloc (Below.refl _ w) _), heap_alloc_new w _, KeepBut.of_below (below_alloc (Below.refl _ w) _) g none, by omega, Nat.le_refl _, hgl⟩⟩
  have hgo : ¬ (s.2 = 0 ∧ (65536 < n + 1 ∨ 64 < deep)) := fun h => hq h.2
  have hn1 : ¬ (65536 : Int) < (n : Int) + 1 := fun h => hq (.inl (by omega))
  have hd1 : ¬ (64 : Int) < (deep : Int) := fun h => hq (.inr (by omega))
  clear hq
  clear hR hgl
  go_enter Try.func47, Try.ntmps47
  go_upto_region 1 with fail
  generalize (w.alloc (.cells #[.int .i64 0, .bool false, .slice none 0 0, .slice none 0 0, .slice none 0 0] 26)) = w1 at *
  obtain ⟨p, hp⟩ : ∃ q, w.heap.size = q := ⟨_, rfl⟩
  rw [hp] at HBX ⊢
  have HP : Aside0 (w.heap.size = p) := ⟨hp⟩
  clear hp
  obtain ⟨A, c, hblk, hc, hC⟩ := HBX.out.rd.blk
  obtain ⟨⟨p0, p1, p2⟩, q0, q1, q2⟩ := cells3 hblk
  have hst : RD w0 (w1.setCell ⟨g, 2, none⟩ (.int .i64 ((n : Int) + 1))) g s (n + 1) := ⟨⟨A, c, by simpa using blk_set hblk 2 (.int .i64 ((n : Int) + 1)), hc, hC⟩, below_set HBX.out.rd.b HBX.out.rd.lo, HBX.out.rd.lo, HBX.out.rd.b8⟩
  have HB := Aside0.mk (HBX.out.keep hst (KeepBut.set_ (KeepBut.refl w1 g none) 2 _))
  clear hst hblk hc hC
  go_upto_region 2 with fail
  clear p0 p1 p2 q0 q1 q2 HBX
  generalize (w1.setCell ⟨g, 2, none⟩ (.int .i64 ((n : Int) + 1))) = w2 at *
  obtain ⟨Ar, cr, hblk, -, -⟩ := HB.out.rd.blk
  obtain ⟨⟨-, pe, pn⟩, -⟩ := cells3 hblk
  rw [show (((n + 1 : Nat)) : Int) = (n : Int) + 1 from by omega] at pn
  clear hblk
  rw [hs] at pe
  have HBa := Aside0.mk (HB.out.below (below_alloc (Below.refl _ w2) (.cells ([sL, sType].map Value.string).toArray 9)))
  have HGL : Aside0 (w2.heap.size ≠ g) := ⟨by have := HB.out.lg; have := HB.out.kp.1; omega⟩
  go_wp2_with fail
  refine (word_any w0 (w2.alloc (.cells ([sL, sType].map Value.string).toArray 9)) g s (n + 1) (some ⟨w2.heap.size, 0, none⟩) 2 [sL, sType] HBa.out.rd (by omega) (lit_C (by omega) (n := 2) rfl HGL.out 9) (by decide)).mono ?_
  rintro e_ w3 ⟨rfl, hr, hk⟩
  clear HB
  have HB := Aside0.mk (HBa.out.keep hr hk)
  clear HBa hr hk HGL
  have hlw := wdS_len [sL, sType] s
  obtain ⟨sw, hsw⟩ : ∃ q, wdS s [sL, sType] = q := ⟨_, rfl⟩
  have HSW := Aside0.mk hsw
  rw [hsw] at HB hlw
  clear pe pn hsw
  go_wp2_with fail
  refine (text_any w0 w3 g sw (n + 1) HB.out.rd (by omega)).mono ?_
  rintro e_ w4 ⟨Ak, ck, rfl, hc, hC, hr, hk, h8⟩
  have HBn := Aside0.mk (HB.out.keep hr hk)
  clear HB
  have HB := HBn
  clear HBn
  have HXk := Aside0.mk (And.intro hc (And.intro hC h8))
  clear hc hC hr hk h8
  have hlenk := txS_len sw
  obtain ⟨lk, hl1⟩ : ∃ q, (txS sw).1 = q := ⟨_, rfl⟩
  obtain ⟨sk, hs1⟩ : ∃ q, (txS sw).2 = q := ⟨_, rfl⟩
  have HSk : Aside0 (txS sw = (lk, sk)) := ⟨by rw [← hl1, ← hs1]⟩
  rw [hl1] at HXk hlenk ⊢
  rw [hs1] at HB hlenk
  clear hl1 hs1
  have hcv := Kd.C_string (src := 22) (dst := 9) (c := ck) Try.underlying22 Try.underlying5 Try.underlying9 (Kd.C_below HXk.out.2.1 HB.out.rd.b)
  obtain ⟨Ar, cr, hblk, -, -⟩ := HB.out.rd.blk
  obtain ⟨⟨-, pe, -⟩, -⟩ := cells3 hblk
  clear hblk
  have HTQ := Aside0.mk (HT.out.symm.trans (nodeS_go (F := F) (deep := deep) (n := n) (l := lk) (q := sk) hgo (by rw [HSW.out]; exact HSk.out)))
  clear hgo
  by_cases hq : sk.2 = 0
  · rw [hq] at pe
    have hsik := fun (x : ByteArray) (L : List UInt8) (hL : x.data.toList = L) => str_lit HXk.out.2.2 x L hL
    obtain ⟨yk, hy⟩ : ∃ q, strOfNums lk = q := ⟨_, rfl⟩
    rw [hy] at hcv hsik
    clear hy
    by_cases hreg : lk = bytesOf sReg
    · have e_sReg : (yk.toList == [114, 101, 103, 117, 108, 97, 114]) = true := by rw [(hsik sReg _ rfl).2 hreg]; simp
      have HTB : Aside0 (T = (⟨1, (regS sk).1, (regS sk).2.1, [], []⟩, (regS sk).2.2, n + 1)) := ⟨by rw [HTQ.out, if_neg (fun h => h hq), if_pos hreg]⟩
      clear hreg HTQ hsik
      have HQ := Aside0.mk hq
      have hf0 := blk_frozen HB.out.bx 0
      have hcj0 := (blk_cell HB.out.bx 0)
      go_upto_region 10 with fail
      have HBn : Aside0 (BX w0 w (w4.setCell ⟨p, 0, none⟩ (.int .i64 1)) g p _ (n + 1) _) := ⟨HB.out.set 0 (.int .i64 1)⟩
      clear HB hf0 hcj0 pe hcv
      have HB := HBn
      clear HBn
      generalize (w4.setCell ⟨p, 0, none⟩ (.int .i64 1)) = w5 at *
      clear hq
      go_wp2_with fail
      refine (text_any w0 w5 g sk (n + 1) HB.out.rd (by omega)).mono ?_
      rintro e_ w6 ⟨Ax, cx, rfl, hc, hC, hr, hk, h8⟩
      have HBn := Aside0.mk (HB.out.keep hr hk)
      clear HB
      have HB := HBn
      clear HBn
      have HXx := Aside0.mk (And.intro hc (And.intro hC h8))
      clear hc hC hr hk h8
      have hlenx := txS_len sk
      obtain ⟨lx, hl1⟩ : ∃ q, (txS sk).1 = q := ⟨_, rfl⟩
      obtain ⟨sx, hs1⟩ : ∃ q, (txS sk).2 = q := ⟨_, rfl⟩
      have HSx : Aside0 (txS sk = (lx, sx)) := ⟨by rw [← hl1, ← hs1]⟩
      rw [hl1] at HXx hlenx ⊢
      rw [hs1] at HB hlenx
      clear hl1 hs1
      have hcv := Kd.C_string (src := 22) (dst := 9) (c := cx) Try.underlying22 Try.underlying5 Try.underlying9 (Kd.C_below HXx.out.2.1 HB.out.rd.b)
      obtain ⟨Ar, cr, hblk, -, -⟩ := HB.out.rd.blk
      obtain ⟨⟨-, pe, -⟩, -⟩ := cells3 hblk
      clear hblk
      have hsix := fun (x : ByteArray) (L : List UInt8) (hL : x.data.toList = L) => str_lit HXx.out.2.2 x L hL
      obtain ⟨yx, hy⟩ : ∃ q, strOfNums lx = q := ⟨_, rfl⟩
      rw [hy] at hcv hsix
      clear hy
      by_cases hx0 : sx.2 = 0
      · rw [hx0] at pe
        by_cases hxe : lx = bytesOf sExec
        · have e_sExec : (yx.toList == [101, 120, 101, 99, 117, 116, 97, 98, 108, 101]) = true := by rw [(hsix sExec _ rfl).2 hxe]; simp
          have HXE := Aside0.mk (And.intro hx0 hxe)
          clear hsix hxe
          have hf1 := blk_frozen HB.out.bx 1
          have hcj1 := (blk_cell HB.out.bx 1)
          go_upto_region 13 with fail
          have HBn : Aside0 (BX w0 w (w6.setCell ⟨p, 1, none⟩ (.bool true)) g p sx (n + 1) #[.int .i64 1, .bool true, .slice none 0 0, .slice none 0 0, .slice none 0 0]) := ⟨by simpa using HB.out.set 1 (.bool true)⟩
          clear HB hf1 hcj1 pe hcv
          have HB := HBn
          clear HBn
          generalize (w6.setCell ⟨p, 1, none⟩ (.bool true)) = w7 at *
          clear hx0
          have HBa := Aside0.mk (HB.out.below (below_alloc (Below.refl _ w7) (.cells ([sEmpty].map Value.string).toArray 9)))
          have HGL : Aside0 (w7.heap.size ≠ g) := ⟨by have := HB.out.lg; have := HB.out.kp.1; omega⟩
          go_wp2_with fail
          refine (word_any w0 (w7.alloc (.cells ([sEmpty].map Value.string).toArray 9)) g sx (n + 1) (some ⟨w7.heap.size, 0, none⟩) 1 [sEmpty] HBa.out.rd (by omega) (lit_C (by omega) (n := 1) rfl HGL.out 9) (by decide)).mono ?_
          rintro e_ w8 ⟨rfl, hr, hk⟩
          clear HB
          have HB := Aside0.mk (HBa.out.keep hr hk)
          clear HBa hr hk HGL
          have hlv := wdS_len [sEmpty] sx
          obtain ⟨sv, hsv⟩ : ∃ q, wdS sx [sEmpty] = q := ⟨_, rfl⟩
          have HSV := Aside0.mk hsv
          rw [hsv] at HB hlv
          clear hsv
          go_wp2_with fail
          refine (text_any w0 w8 g sv (n + 1) HB.out.rd (by omega)).mono ?_
          rintro e_ w9 ⟨Az, cz, rfl, hc, hC, hr, hk, h8⟩
          have HBn := Aside0.mk (HB.out.keep hr hk)
          clear HB
          have HB := HBn
          clear HBn
          have HXz := Aside0.mk (And.intro hc (And.intro hC h8))
          clear hc hC hr hk h8
          have hlenz := txS_len sv
          obtain ⟨lz, hl1⟩ : ∃ q, (txS sv).1 = q := ⟨_, rfl⟩
          obtain ⟨sz, hs1⟩ : ∃ q, (txS sv).2 = q := ⟨_, rfl⟩
          have HSz : Aside0 (txS sv = (lz, sz)) := ⟨by rw [← hl1, ← hs1]⟩
          rw [hl1] at HXz hlenz ⊢
          rw [hs1] at HB hlenz
          clear hl1 hs1
          have hcv := Kd.C_string (src := 22) (dst := 9) (c := cz) Try.underlying22 Try.underlying5 Try.underlying9 (Kd.C_below HXz.out.2.1 HB.out.rd.b)
          obtain ⟨Ar, cr, hblk, -, -⟩ := HB.out.rd.blk
          obtain ⟨⟨-, pe, -⟩, -⟩ := cells3 hblk
          clear hblk
          have hsiz := fun (x : ByteArray) (L : List UInt8) (hL : x.data.toList = L) => str_lit HXz.out.2.2 x L hL
          obtain ⟨yz, hy⟩ : ∃ q, strOfNums lz = q := ⟨_, rfl⟩
          rw [hy] at hcv hsiz
          clear hy
          have HA : Aside0 ((if (txS sk).2.2 = 0 ∧ (txS sk).1 = bytesOf sExec then (true, (txS (wdS (txS sk).2 [sEmpty])).1, (txS (wdS (txS sk).2 [sEmpty])).2) else (false, (txS sk).1, (txS sk).2)) = (true, lz, sz)) := ⟨by rw [HSx.out, if_pos HXE.out, HSV.out, HSz.out]⟩
          by_cases hc0 : sz.2 = 0
          · rw [hc0] at pe
            by_cases hcc : lz = bytesOf sCont
            · have e_sCont : (yz.toList == [99, 111, 110, 116, 101, 110, 116, 115]) = true := by rw [(hsiz sCont _ rfl).2 hcc]; simp
              have HREG := fun {d : List Int} {s4 s5 : RS} (hd : txS sz = (d, s4)) (hw : wdS s4 [sR] = s5) => regS_of (s3 := sz) HA.out (by rw [if_neg (fun h => h.2 hcc)]) hd hw
              have HREG := Aside0.mk @HREG
              clear hcc hc0 hsiz
              go_wp2_with fail
              refine (text_any w0 w9 g sz (n + 1) HB.out.rd (by omega)).mono ?_
              rintro e_ wd ⟨Ad, cd, rfl, hc, hC, hr, hk, h8⟩
              have HBn := Aside0.mk (HB.out.keep hr hk)
              clear HB
              have HB := HBn
              clear HBn
              have HXd := Aside0.mk (And.intro hc (And.intro hC h8))
              clear hc hC hr hk h8
              have hlend := txS_len sz
              obtain ⟨ld, hl1⟩ : ∃ q, (txS sz).1 = q := ⟨_, rfl⟩
              obtain ⟨sd, hs1⟩ : ∃ q, (txS sz).2 = q := ⟨_, rfl⟩
              have HSd : Aside0 (txS sz = (ld, sd)) := ⟨by rw [← hl1, ← hs1]⟩
              rw [hl1] at HXd hlend ⊢
              rw [hs1] at HB hlend
              clear hl1 hs1
              have hdl : ld.length ≤ 1073741824 := by omega
              go_wp2_with fail
              refine (clone_any Ad cd ld wd (Kd.C_below HXd.out.2.1 HB.out.rd.b) (by omega)).mono ?_
              rintro e_ we ⟨A', c', rfl, hRd, hbd⟩
              have HBn := Aside0.mk (HB.out.below hbd)
              have HD := Aside0.mk hRd
              have HGD : Aside0 (g < wd.heap.size ∧ p < wd.heap.size ∧ w.heap.size ≤ wd.heap.size) := ⟨by have := HB.out.lg; have := HB.out.kp.1; have := blk_lt HB.out.bx; omega⟩
              clear HB hbd hRd
              have HB := HBn
              clear HBn
              have hf2 := blk_frozen HB.out.bx 2
              have hcj2 := blk_cell HB.out.bx 2
              go_upto_region 18 with fail
              have HBn : Aside0 (BX w0 w (we.setCell ⟨p, 2, none⟩ (.slice A' ld.length c')) g p sd (n + 1) #[.int .i64 1, .bool true, .slice A' ld.length c', .slice none 0 0, .slice none 0 0]) := ⟨by simpa using HB.out.set 2 (.slice A' ld.length c')⟩
              have HDn := Aside0.mk (data_far (p := p) (j := 2) (u := .slice A' ld.length c') HD.out HGD.out.2.1)
              clear HB HD hf2 hcj2
              have HB := HBn
              have HD := HDn
              clear HBn HDn
              generalize (we.setCell ⟨p, 2, none⟩ (.slice A' ld.length c')) = wf at *
              have HBa := Aside0.mk (HB.out.below (below_alloc (Below.refl _ wf) (.cells ([sR].map Value.string).toArray 9)))
              have HDa := Aside0.mk (Kd.R_below HD.out (below_alloc (Below.refl _ wf) (.cells ([sR].map Value.string).toArray 9)))
              have HGL : Aside0 (wf.heap.size ≠ g) := ⟨by have := HB.out.lg; have := HB.out.kp.1; omega⟩
              go_wp2_with fail
              refine (word_any w0 (wf.alloc (.cells ([sR].map Value.string).toArray 9)) g sd (n + 1) (some ⟨wf.heap.size, 0, none⟩) 1 [sR] HBa.out.rd (by omega) (lit_C (by omega) (n := 1) rfl HGL.out 9) (by decide)).mono ?_
              rintro e_ wg ⟨rfl, hr, hk⟩
              clear HB
              have HB := Aside0.mk (HBa.out.keep hr hk)
              clear HD
              have HD := Aside0.mk (data_keep (g := g) HDa.out hk HGD.out.1)
              clear HDa
              clear HBa hr hk HGL
              obtain ⟨b0, b1, b2, b3, b4⟩ := cells5 HB.out.bx
              have f0 := blk_frozen HB.out.bx 0
              have f1 := blk_frozen HB.out.bx 1
              have f2 := blk_frozen HB.out.bx 2
              have f3 := blk_frozen HB.out.bx 3
              have f4 := blk_frozen HB.out.bx 4
              have HF := Aside0.mk HB.out.same
              have HM := Aside0.mk (data_M (k := 1) (ex := true) HD.out)
              have HLO : Aside0 (p < wd.heap.size ∧ w.heap.size ≤ wd.heap.size) := ⟨And.intro HGD.out.2.1 HGD.out.2.2⟩
              have HG := Aside0.mk (data_G (k := 1) (ex := true) (F := F) (by decide) HXd.out.2.2 hdl)
              have HTT := Aside0.mk (HTB.out.trans (by rw [HREG.out HSd.out rfl]))
              go_wp2_with fail
              exact bodyPost_ret (results_cell_row rfl _ _ p 26 _ (0, 0) _ rfl HF.out.bx Try.underlying26 rfl (by kernel_rfl)) rfl (ND_post HTT.out (k26.M_lower HLO.out.2 (M_same HM.out HLO.out.1)) HG.out HF.out.rd HF.out.kp)
            · have e_sCont : (yz.toList == [99, 111, 110, 116, 101, 110, 116, 115]) = false := by simpa using fun h => hcc ((hsiz sCont _ rfl).1 h)
              have HREG := fun {d : List Int} {s4 s5 : RS} (hd : txS (flS sz 3) = (d, s4)) (hw : wdS s4 [sR] = s5) => regS_of (s3 := flS sz 3) HA.out (by rw [if_pos ⟨hc0, hcc⟩]; unfold flS; rw [if_pos hc0]) hd hw
              have HREG := Aside0.mk @HREG
              clear hcc hc0 hsiz
              go_wp2_with fail
              refine (fail_any w0 w9 g sz (n + 1) 3 HB.out.rd).mono ?_
              rintro e_ wc ⟨rfl, hr, hk⟩
              have HBn := Aside0.mk (HB.out.keep hr hk)
              clear HB hr hk pe
              have HB := HBn
              clear HBn
              have hlf := flS_len sz 3
              obtain ⟨sf, hsf⟩ : ∃ q, flS sz 3 = q := ⟨_, rfl⟩
              rw [hsf] at HB HREG hlf
              clear hsf
              go_wp2_with fail
              refine (text_any w0 wc g sf (n + 1) HB.out.rd (by omega)).mono ?_
              rintro e_ wd ⟨Ad, cd, rfl, hc, hC, hr, hk, h8⟩
              have HBn := Aside0.mk (HB.out.keep hr hk)
              clear HB
              have HB := HBn
              clear HBn
              have HXd := Aside0.mk (And.intro hc (And.intro hC h8))
              clear hc hC hr hk h8
              have hlend := txS_len sf
              obtain ⟨ld, hl1⟩ : ∃ q, (txS sf).1 = q := ⟨_, rfl⟩
              obtain ⟨sd, hs1⟩ : ∃ q, (txS sf).2 = q := ⟨_, rfl⟩
              have HSd : Aside0 (txS sf = (ld, sd)) := ⟨by rw [← hl1, ← hs1]⟩
              rw [hl1] at HXd hlend ⊢
              rw [hs1] at HB hlend
              clear hl1 hs1
              have hdl : ld.length ≤ 1073741824 := by omega
              go_wp2_with fail
              refine (clone_any Ad cd ld wd (Kd.C_below HXd.out.2.1 HB.out.rd.b) (by omega)).mono ?_
              rintro e_ we ⟨A', c', rfl, hRd, hbd⟩
              have HBn := Aside0.mk (HB.out.below hbd)
              have HD := Aside0.mk hRd
              have HGD : Aside0 (g < wd.heap.size ∧ p < wd.heap.size ∧ w.heap.size ≤ wd.heap.size) := ⟨by have := HB.out.lg; have := HB.out.kp.1; have := blk_lt HB.out.bx; omega⟩
              clear HB hbd hRd
              have HB := HBn
              clear HBn
              have hf2 := blk_frozen HB.out.bx 2
              have hcj2 := blk_cell HB.out.bx 2
              go_upto_region 18 with fail
              have HBn : Aside0 (BX w0 w (we.setCell ⟨p, 2, none⟩ (.slice A' ld.length c')) g p sd (n + 1) #[.int .i64 1, .bool true, .slice A' ld.length c', .slice none 0 0, .slice none 0 0]) := ⟨by simpa using HB.out.set 2 (.slice A' ld.length c')⟩
              have HDn := Aside0.mk (data_far (p := p) (j := 2) (u := .slice A' ld.length c') HD.out HGD.out.2.1)
              clear HB HD hf2 hcj2
              have HB := HBn
              have HD := HDn
              clear HBn HDn
              generalize (we.setCell ⟨p, 2, none⟩ (.slice A' ld.length c')) = wf at *
              have HBa := Aside0.mk (HB.out.below (below_alloc (Below.refl _ wf) (.cells ([sR].map Value.string).toArray 9)))
              have HDa := Aside0.mk (Kd.R_below HD.out (below_alloc (Below.refl _ wf) (.cells ([sR].map Value.string).toArray 9)))
              have HGL : Aside0 (wf.heap.size ≠ g) := ⟨by have := HB.out.lg; have := HB.out.kp.1; omega⟩
              go_wp2_with fail
              refine (word_any w0 (wf.alloc (.cells ([sR].map Value.string).toArray 9)) g sd (n + 1) (some ⟨wf.heap.size, 0, none⟩) 1 [sR] HBa.out.rd (by omega) (lit_C (by omega) (n := 1) rfl HGL.out 9) (by decide)).mono ?_
              rintro e_ wg ⟨rfl, hr, hk⟩
              clear HB
              have HB := Aside0.mk (HBa.out.keep hr hk)
              clear HD
              have HD := Aside0.mk (data_keep (g := g) HDa.out hk HGD.out.1)
              clear HDa
              clear HBa hr hk HGL
              obtain ⟨b0, b1, b2, b3, b4⟩ := cells5 HB.out.bx
              have f0 := blk_frozen HB.out.bx 0
              have f1 := blk_frozen HB.out.bx 1
              have f2 := blk_frozen HB.out.bx 2
              have f3 := blk_frozen HB.out.bx 3
              have f4 := blk_frozen HB.out.bx 4
              have HF := Aside0.mk HB.out.same
              have HM := Aside0.mk (data_M (k := 1) (ex := true) HD.out)
              have HLO : Aside0 (p < wd.heap.size ∧ w.heap.size ≤ wd.heap.size) := ⟨And.intro HGD.out.2.1 HGD.out.2.2⟩
              have HG := Aside0.mk (data_G (k := 1) (ex := true) (F := F) (by decide) HXd.out.2.2 hdl)
              have HTT := Aside0.mk (HTB.out.trans (by rw [HREG.out HSd.out rfl]))
              go_wp2_with fail
              exact bodyPost_ret (results_cell_row rfl _ _ p 26 _ (0, 0) _ rfl HF.out.bx Try.underlying26 rfl (by kernel_rfl)) rfl (ND_post HTT.out (k26.M_lower HLO.out.2 (M_same HM.out HLO.out.1)) HG.out HF.out.rd HF.out.kp)
          · have hcb : (sz.2 == 0) = false := by simpa using hc0
            have HREG := fun {d : List Int} {s4 s5 : RS} (hd : txS sz = (d, s4)) (hw : wdS s4 [sR] = s5) => regS_of (s3 := sz) HA.out (by rw [if_neg (fun h => hc0 h.1)]) hd hw
            have HREG := Aside0.mk @HREG
            clear hc0 hsiz
            go_wp2_with fail
            refine (text_any w0 w9 g sz (n + 1) HB.out.rd (by omega)).mono ?_
            rintro e_ wd ⟨Ad, cd, rfl, hc, hC, hr, hk, h8⟩
            have HBn := Aside0.mk (HB.out.keep hr hk)
            clear HB
            have HB := HBn
            clear HBn
            have HXd := Aside0.mk (And.intro hc (And.intro hC h8))
            clear hc hC hr hk h8
            have hlend := txS_len sz
            obtain ⟨ld, hl1⟩ : ∃ q, (txS sz).1 = q := ⟨_, rfl⟩
            obtain ⟨sd, hs1⟩ : ∃ q, (txS sz).2 = q := ⟨_, rfl⟩
            have HSd : Aside0 (txS sz = (ld, sd)) := ⟨by rw [← hl1, ← hs1]⟩
            rw [hl1] at HXd hlend ⊢
            rw [hs1] at HB hlend
            clear hl1 hs1
            have hdl : ld.length ≤ 1073741824 := by omega
            go_wp2_with fail
            refine (clone_any Ad cd ld wd (Kd.C_below HXd.out.2.1 HB.out.rd.b) (by omega)).mono ?_
            rintro e_ we ⟨A', c', rfl, hRd, hbd⟩
            have HBn := Aside0.mk (HB.out.below hbd)
            have HD := Aside0.mk hRd
            have HGD : Aside0 (g < wd.heap.size ∧ p < wd.heap.size ∧ w.heap.size ≤ wd.heap.size) := ⟨by have := HB.out.lg; have := HB.out.kp.1; have := blk_lt HB.out.bx; omega⟩
            clear HB hbd hRd
            have HB := HBn
            clear HBn
            have hf2 := blk_frozen HB.out.bx 2
            have hcj2 := blk_cell HB.out.bx 2
            go_upto_region 18 with fail
            have HBn : Aside0 (BX w0 w (we.setCell ⟨p, 2, none⟩ (.slice A' ld.length c')) g p sd (n + 1) #[.int .i64 1, .bool true, .slice A' ld.length c', .slice none 0 0, .slice none 0 0]) := ⟨by simpa using HB.out.set 2 (.slice A' ld.length c')⟩
            have HDn := Aside0.mk (data_far (p := p) (j := 2) (u := .slice A' ld.length c') HD.out HGD.out.2.1)
            clear HB HD hf2 hcj2
            have HB := HBn
            have HD := HDn
            clear HBn HDn
            generalize (we.setCell ⟨p, 2, none⟩ (.slice A' ld.length c')) = wf at *
            have HBa := Aside0.mk (HB.out.below (below_alloc (Below.refl _ wf) (.cells ([sR].map Value.string).toArray 9)))
            have HDa := Aside0.mk (Kd.R_below HD.out (below_alloc (Below.refl _ wf) (.cells ([sR].map Value.string).toArray 9)))
            have HGL : Aside0 (wf.heap.size ≠ g) := ⟨by have := HB.out.lg; have := HB.out.kp.1; omega⟩
            go_wp2_with fail
            refine (word_any w0 (wf.alloc (.cells ([sR].map Value.string).toArray 9)) g sd (n + 1) (some ⟨wf.heap.size, 0, none⟩) 1 [sR] HBa.out.rd (by omega) (lit_C (by omega) (n := 1) rfl HGL.out 9) (by decide)).mono ?_
            rintro e_ wg ⟨rfl, hr, hk⟩
            clear HB
            have HB := Aside0.mk (HBa.out.keep hr hk)
            clear HD
            have HD := Aside0.mk (data_keep (g := g) HDa.out hk HGD.out.1)
            clear HDa
            clear HBa hr hk HGL
            obtain ⟨b0, b1, b2, b3, b4⟩ := cells5 HB.out.bx
            have f0 := blk_frozen HB.out.bx 0
            have f1 := blk_frozen HB.out.bx 1
            have f2 := blk_frozen HB.out.bx 2
            have f3 := blk_frozen HB.out.bx 3
            have f4 := blk_frozen HB.out.bx 4
            have HF := Aside0.mk HB.out.same
            have HM := Aside0.mk (data_M (k := 1) (ex := true) HD.out)
            have HLO : Aside0 (p < wd.heap.size ∧ w.heap.size ≤ wd.heap.size) := ⟨And.intro HGD.out.2.1 HGD.out.2.2⟩
            have HG := Aside0.mk (data_G (k := 1) (ex := true) (F := F) (by decide) HXd.out.2.2 hdl)
            have HTT := Aside0.mk (HTB.out.trans (by rw [HREG.out HSd.out rfl]))
            go_wp2_with fail
            exact bodyPost_ret (results_cell_row rfl _ _ p 26 _ (0, 0) _ rfl HF.out.bx Try.underlying26 rfl (by kernel_rfl)) rfl (ND_post HTT.out (k26.M_lower HLO.out.2 (M_same HM.out HLO.out.1)) HG.out HF.out.rd HF.out.kp)
        · have e_sExec : (yx.toList == [101, 120, 101, 99, 117, 116, 97, 98, 108, 101]) = false := by simpa using fun h => hxe ((hsix sExec _ rfl).1 h)
          have HA : Aside0 ((if (txS sk).2.2 = 0 ∧ (txS sk).1 = bytesOf sExec then (true, (txS (wdS (txS sk).2 [sEmpty])).1, (txS (wdS (txS sk).2 [sEmpty])).2) else (false, (txS sk).1, (txS sk).2)) = (false, lx, sx)) := ⟨by rw [HSx.out, if_neg (fun h => hxe h.2)]⟩
          clear hxe
          have HBn : Aside0 (BX w0 w w6 g p sx (n + 1) #[.int .i64 1, .bool false, .slice none 0 0, .slice none 0 0, .slice none 0 0]) := ⟨by simpa using HB.out⟩
          clear HB
          have HB := HBn
          clear HBn
          have hc0 := hx0
          by_cases hcc : lx = bytesOf sCont
          · have e_sCont : (yx.toList == [99, 111, 110, 116, 101, 110, 116, 115]) = true := by rw [(hsix sCont _ rfl).2 hcc]; simp
            have HREG := fun {d : List Int} {s4 s5 : RS} (hd : txS sx = (d, s4)) (hw : wdS s4 [sR] = s5) => regS_of (s3 := sx) HA.out (by rw [if_neg (fun h => h.2 hcc)]) hd hw
            have HREG := Aside0.mk @HREG
            clear hcc hc0 hsix
            go_wp2_with fail
            refine (text_any w0 w6 g sx (n + 1) HB.out.rd (by omega)).mono ?_
            rintro e_ wd ⟨Ad, cd, rfl, hc, hC, hr, hk, h8⟩
            have HBn := Aside0.mk (HB.out.keep hr hk)
            clear HB
            have HB := HBn
            clear HBn
            have HXd := Aside0.mk (And.intro hc (And.intro hC h8))
            clear hc hC hr hk h8
            have hlend := txS_len sx
            obtain ⟨ld, hl1⟩ : ∃ q, (txS sx).1 = q := ⟨_, rfl⟩
            obtain ⟨sd, hs1⟩ : ∃ q, (txS sx).2 = q := ⟨_, rfl⟩
            have HSd : Aside0 (txS sx = (ld, sd)) := ⟨by rw [← hl1, ← hs1]⟩
            rw [hl1] at HXd hlend ⊢
            rw [hs1] at HB hlend
            clear hl1 hs1
            have hdl : ld.length ≤ 1073741824 := by omega
            go_wp2_with fail
            refine (clone_any Ad cd ld wd (Kd.C_below HXd.out.2.1 HB.out.rd.b) (by omega)).mono ?_
            rintro e_ we ⟨A', c', rfl, hRd, hbd⟩
            have HBn := Aside0.mk (HB.out.below hbd)
            have HD := Aside0.mk hRd
            have HGD : Aside0 (g < wd.heap.size ∧ p < wd.heap.size ∧ w.heap.size ≤ wd.heap.size) := ⟨by have := HB.out.lg; have := HB.out.kp.1; have := blk_lt HB.out.bx; omega⟩
            clear HB hbd hRd
            have HB := HBn
            clear HBn
            have hf2 := blk_frozen HB.out.bx 2
            have hcj2 := blk_cell HB.out.bx 2
            go_upto_region 18 with fail
            have HBn : Aside0 (BX w0 w (we.setCell ⟨p, 2, none⟩ (.slice A' ld.length c')) g p sd (n + 1) #[.int .i64 1, .bool false, .slice A' ld.length c', .slice none 0 0, .slice none 0 0]) := ⟨by simpa using HB.out.set 2 (.slice A' ld.length c')⟩
            have HDn := Aside0.mk (data_far (p := p) (j := 2) (u := .slice A' ld.length c') HD.out HGD.out.2.1)
            clear HB HD hf2 hcj2
            have HB := HBn
            have HD := HDn
            clear HBn HDn
            generalize (we.setCell ⟨p, 2, none⟩ (.slice A' ld.length c')) = wf at *
            have HBa := Aside0.mk (HB.out.below (below_alloc (Below.refl _ wf) (.cells ([sR].map Value.string).toArray 9)))
            have HDa := Aside0.mk (Kd.R_below HD.out (below_alloc (Below.refl _ wf) (.cells ([sR].map Value.string).toArray 9)))
            have HGL : Aside0 (wf.heap.size ≠ g) := ⟨by have := HB.out.lg; have := HB.out.kp.1; omega⟩
            go_wp2_with fail
            refine (word_any w0 (wf.alloc (.cells ([sR].map Value.string).toArray 9)) g sd (n + 1) (some ⟨wf.heap.size, 0, none⟩) 1 [sR] HBa.out.rd (by omega) (lit_C (by omega) (n := 1) rfl HGL.out 9) (by decide)).mono ?_
            rintro e_ wg ⟨rfl, hr, hk⟩
            clear HB
            have HB := Aside0.mk (HBa.out.keep hr hk)
            clear HD
            have HD := Aside0.mk (data_keep (g := g) HDa.out hk HGD.out.1)
            clear HDa
            clear HBa hr hk HGL
            obtain ⟨b0, b1, b2, b3, b4⟩ := cells5 HB.out.bx
            have f0 := blk_frozen HB.out.bx 0
            have f1 := blk_frozen HB.out.bx 1
            have f2 := blk_frozen HB.out.bx 2
            have f3 := blk_frozen HB.out.bx 3
            have f4 := blk_frozen HB.out.bx 4
            have HF := Aside0.mk HB.out.same
            have HM := Aside0.mk (data_M (k := 1) (ex := false) HD.out)
            have HLO : Aside0 (p < wd.heap.size ∧ w.heap.size ≤ wd.heap.size) := ⟨And.intro HGD.out.2.1 HGD.out.2.2⟩
            have HG := Aside0.mk (data_G (k := 1) (ex := false) (F := F) (by decide) HXd.out.2.2 hdl)
            have HTT := Aside0.mk (HTB.out.trans (by rw [HREG.out HSd.out rfl]))
            go_wp2_with fail
            exact bodyPost_ret (results_cell_row rfl _ _ p 26 _ (0, 0) _ rfl HF.out.bx Try.underlying26 rfl (by kernel_rfl)) rfl (ND_post HTT.out (k26.M_lower HLO.out.2 (M_same HM.out HLO.out.1)) HG.out HF.out.rd HF.out.kp)
          · have e_sCont : (yx.toList == [99, 111, 110, 116, 101, 110, 116, 115]) = false := by simpa using fun h => hcc ((hsix sCont _ rfl).1 h)
            have HREG := fun {d : List Int} {s4 s5 : RS} (hd : txS (flS sx 3) = (d, s4)) (hw : wdS s4 [sR] = s5) => regS_of (s3 := flS sx 3) HA.out (by rw [if_pos ⟨hc0, hcc⟩]; unfold flS; rw [if_pos hc0]) hd hw
            have HREG := Aside0.mk @HREG
            clear hcc hc0 hsix
            go_wp2_with fail
            refine (fail_any w0 w6 g sx (n + 1) 3 HB.out.rd).mono ?_
            rintro e_ wc ⟨rfl, hr, hk⟩
            have HBn := Aside0.mk (HB.out.keep hr hk)
            clear HB hr hk pe
            have HB := HBn
            clear HBn
            have hlf := flS_len sx 3
            obtain ⟨sf, hsf⟩ : ∃ q, flS sx 3 = q := ⟨_, rfl⟩
            rw [hsf] at HB HREG hlf
            clear hsf
            go_wp2_with fail
            refine (text_any w0 wc g sf (n + 1) HB.out.rd (by omega)).mono ?_
            rintro e_ wd ⟨Ad, cd, rfl, hc, hC, hr, hk, h8⟩
            have HBn := Aside0.mk (HB.out.keep hr hk)
            clear HB
            have HB := HBn
            clear HBn
            have HXd := Aside0.mk (And.intro hc (And.intro hC h8))
            clear hc hC hr hk h8
            have hlend := txS_len sf
            obtain ⟨ld, hl1⟩ : ∃ q, (txS sf).1 = q := ⟨_, rfl⟩
            obtain ⟨sd, hs1⟩ : ∃ q, (txS sf).2 = q := ⟨_, rfl⟩
            have HSd : Aside0 (txS sf = (ld, sd)) := ⟨by rw [← hl1, ← hs1]⟩
            rw [hl1] at HXd hlend ⊢
            rw [hs1] at HB hlend
            clear hl1 hs1
            have hdl : ld.length ≤ 1073741824 := by omega
            go_wp2_with fail
            refine (clone_any Ad cd ld wd (Kd.C_below HXd.out.2.1 HB.out.rd.b) (by omega)).mono ?_
            rintro e_ we ⟨A', c', rfl, hRd, hbd⟩
            have HBn := Aside0.mk (HB.out.below hbd)
            have HD := Aside0.mk hRd
            have HGD : Aside0 (g < wd.heap.size ∧ p < wd.heap.size ∧ w.heap.size ≤ wd.heap.size) := ⟨by have := HB.out.lg; have := HB.out.kp.1; have := blk_lt HB.out.bx; omega⟩
            clear HB hbd hRd
            have HB := HBn
            clear HBn
            have hf2 := blk_frozen HB.out.bx 2
            have hcj2 := blk_cell HB.out.bx 2
            go_upto_region 18 with fail
            have HBn : Aside0 (BX w0 w (we.setCell ⟨p, 2, none⟩ (.slice A' ld.length c')) g p sd (n + 1) #[.int .i64 1, .bool false, .slice A' ld.length c', .slice none 0 0, .slice none 0 0]) := ⟨by simpa using HB.out.set 2 (.slice A' ld.length c')⟩
            have HDn := Aside0.mk (data_far (p := p) (j := 2) (u := .slice A' ld.length c') HD.out HGD.out.2.1)
            clear HB HD hf2 hcj2
            have HB := HBn
            have HD := HDn
            clear HBn HDn
            generalize (we.setCell ⟨p, 2, none⟩ (.slice A' ld.length c')) = wf at *
            have HBa := Aside0.mk (HB.out.below (below_alloc (Below.refl _ wf) (.cells ([sR].map Value.string).toArray 9)))
            have HDa := Aside0.mk (Kd.R_below HD.out (below_alloc (Below.refl _ wf) (.cells ([sR].map Value.string).toArray 9)))
            have HGL : Aside0 (wf.heap.size ≠ g) := ⟨by have := HB.out.lg; have := HB.out.kp.1; omega⟩
            go_wp2_with fail
            refine (word_any w0 (wf.alloc (.cells ([sR].map Value.string).toArray 9)) g sd (n + 1) (some ⟨wf.heap.size, 0, none⟩) 1 [sR] HBa.out.rd (by omega) (lit_C (by omega) (n := 1) rfl HGL.out 9) (by decide)).mono ?_
            rintro e_ wg ⟨rfl, hr, hk⟩
            clear HB
            have HB := Aside0.mk (HBa.out.keep hr hk)
            clear HD
            have HD := Aside0.mk (data_keep (g := g) HDa.out hk HGD.out.1)
            clear HDa
            clear HBa hr hk HGL
            obtain ⟨b0, b1, b2, b3, b4⟩ := cells5 HB.out.bx
            have f0 := blk_frozen HB.out.bx 0
            have f1 := blk_frozen HB.out.bx 1
            have f2 := blk_frozen HB.out.bx 2
            have f3 := blk_frozen HB.out.bx 3
            have f4 := blk_frozen HB.out.bx 4
            have HF := Aside0.mk HB.out.same
            have HM := Aside0.mk (data_M (k := 1) (ex := false) HD.out)
            have HLO : Aside0 (p < wd.heap.size ∧ w.heap.size ≤ wd.heap.size) := ⟨And.intro HGD.out.2.1 HGD.out.2.2⟩
            have HG := Aside0.mk (data_G (k := 1) (ex := false) (F := F) (by decide) HXd.out.2.2 hdl)
            have HTT := Aside0.mk (HTB.out.trans (by rw [HREG.out HSd.out rfl]))
            go_wp2_with fail
            exact bodyPost_ret (results_cell_row rfl _ _ p 26 _ (0, 0) _ rfl HF.out.bx Try.underlying26 rfl (by kernel_rfl)) rfl (ND_post HTT.out (k26.M_lower HLO.out.2 (M_same HM.out HLO.out.1)) HG.out HF.out.rd HF.out.kp)
      · have hxb : (sx.2 == 0) = false := by simpa using hx0
        have HA : Aside0 ((if (txS sk).2.2 = 0 ∧ (txS sk).1 = bytesOf sExec then (true, (txS (wdS (txS sk).2 [sEmpty])).1, (txS (wdS (txS sk).2 [sEmpty])).2) else (false, (txS sk).1, (txS sk).2)) = (false, lx, sx)) := ⟨by rw [HSx.out, if_neg (fun h => hx0 h.1)]⟩
        have HBn : Aside0 (BX w0 w w6 g p sx (n + 1) #[.int .i64 1, .bool false, .slice none 0 0, .slice none 0 0, .slice none 0 0]) := ⟨by simpa using HB.out⟩
        clear HB
        have HB := HBn
        clear HBn
        have hc0 := hx0
        have hcb : (sx.2 == 0) = false := by simpa using hc0
        have HREG := fun {d : List Int} {s4 s5 : RS} (hd : txS sx = (d, s4)) (hw : wdS s4 [sR] = s5) => regS_of (s3 := sx) HA.out (by rw [if_neg (fun h => hc0 h.1)]) hd hw
        have HREG := Aside0.mk @HREG
        clear hc0 hsix
        go_wp2_with fail
        refine (text_any w0 w6 g sx (n + 1) HB.out.rd (by omega)).mono ?_
        rintro e_ wd ⟨Ad, cd, rfl, hc, hC, hr, hk, h8⟩
        have HBn := Aside0.mk (HB.out.keep hr hk)
        clear HB
        have HB := HBn
        clear HBn
        have HXd := Aside0.mk (And.intro hc (And.intro hC h8))
        clear hc hC hr hk h8
        have hlend := txS_len sx
        obtain ⟨ld, hl1⟩ : ∃ q, (txS sx).1 = q := ⟨_, rfl⟩
        obtain ⟨sd, hs1⟩ : ∃ q, (txS sx).2 = q := ⟨_, rfl⟩
        have HSd : Aside0 (txS sx = (ld, sd)) := ⟨by rw [← hl1, ← hs1]⟩
        rw [hl1] at HXd hlend ⊢
        rw [hs1] at HB hlend
        clear hl1 hs1
        have hdl : ld.length ≤ 1073741824 := by omega
        go_wp2_with fail
        refine (clone_any Ad cd ld wd (Kd.C_below HXd.out.2.1 HB.out.rd.b) (by omega)).mono ?_
        rintro e_ we ⟨A', c', rfl, hRd, hbd⟩
        have HBn := Aside0.mk (HB.out.below hbd)
        have HD := Aside0.mk hRd
        have HGD : Aside0 (g < wd.heap.size ∧ p < wd.heap.size ∧ w.heap.size ≤ wd.heap.size) := ⟨by have := HB.out.lg; have := HB.out.kp.1; have := blk_lt HB.out.bx; omega⟩
        clear HB hbd hRd
        have HB := HBn
        clear HBn
        have hf2 := blk_frozen HB.out.bx 2
        have hcj2 := blk_cell HB.out.bx 2
        go_upto_region 18 with fail
        have HBn : Aside0 (BX w0 w (we.setCell ⟨p, 2, none⟩ (.slice A' ld.length c')) g p sd (n + 1) #[.int .i64 1, .bool false, .slice A' ld.length c', .slice none 0 0, .slice none 0 0]) := ⟨by simpa using HB.out.set 2 (.slice A' ld.length c')⟩
        have HDn := Aside0.mk (data_far (p := p) (j := 2) (u := .slice A' ld.length c') HD.out HGD.out.2.1)
        clear HB HD hf2 hcj2
        have HB := HBn
        have HD := HDn
        clear HBn HDn
        generalize (we.setCell ⟨p, 2, none⟩ (.slice A' ld.length c')) = wf at *
        have HBa := Aside0.mk (HB.out.below (below_alloc (Below.refl _ wf) (.cells ([sR].map Value.string).toArray 9)))
        have HDa := Aside0.mk (Kd.R_below HD.out (below_alloc (Below.refl _ wf) (.cells ([sR].map Value.string).toArray 9)))
        have HGL : Aside0 (wf.heap.size ≠ g) := ⟨by have := HB.out.lg; have := HB.out.kp.1; omega⟩
        go_wp2_with fail
        refine (word_any w0 (wf.alloc (.cells ([sR].map Value.string).toArray 9)) g sd (n + 1) (some ⟨wf.heap.size, 0, none⟩) 1 [sR] HBa.out.rd (by omega) (lit_C (by omega) (n := 1) rfl HGL.out 9) (by decide)).mono ?_
        rintro e_ wg ⟨rfl, hr, hk⟩
        clear HB
        have HB := Aside0.mk (HBa.out.keep hr hk)
        clear HD
        have HD := Aside0.mk (data_keep (g := g) HDa.out hk HGD.out.1)
        clear HDa
        clear HBa hr hk HGL
        obtain ⟨b0, b1, b2, b3, b4⟩ := cells5 HB.out.bx
        have f0 := blk_frozen HB.out.bx 0
        have f1 := blk_frozen HB.out.bx 1
        have f2 := blk_frozen HB.out.bx 2
        have f3 := blk_frozen HB.out.bx 3
        have f4 := blk_frozen HB.out.bx 4
        have HF := Aside0.mk HB.out.same
        have HM := Aside0.mk (data_M (k := 1) (ex := false) HD.out)
        have HLO : Aside0 (p < wd.heap.size ∧ w.heap.size ≤ wd.heap.size) := ⟨And.intro HGD.out.2.1 HGD.out.2.2⟩
        have HG := Aside0.mk (data_G (k := 1) (ex := false) (F := F) (by decide) HXd.out.2.2 hdl)
        have HTT := Aside0.mk (HTB.out.trans (by rw [HREG.out HSd.out rfl]))
        go_wp2_with fail
        exact bodyPost_ret (results_cell_row rfl _ _ p 26 _ (0, 0) _ rfl HF.out.bx Try.underlying26 rfl (by kernel_rfl)) rfl (ND_post HTT.out (k26.M_lower HLO.out.2 (M_same HM.out HLO.out.1)) HG.out HF.out.rd HF.out.kp)
    · by_cases hsym : lk = bytesOf sSym
      · have e_sReg : (yk.toList == [114, 101, 103, 117, 108, 97, 114]) = false := by simpa using fun h => hreg ((hsik sReg _ rfl).1 h)
        have e_sSym : (yk.toList == [115, 121, 109, 108, 105, 110, 107]) = true := by rw [(hsik sSym _ rfl).2 hsym]; simp
        have HTB : Aside0 (T = (⟨3, false, (symS sk).1, [], []⟩, (symS sk).2, n + 1)) := ⟨by rw [HTQ.out, if_neg (fun h => h hq), if_neg hreg, if_pos hsym]⟩
        clear hreg hsym HTQ hsik hq
        have hf0 := blk_frozen HB.out.bx 0
        have hcj0 := (blk_cell HB.out.bx 0)
        go_upto_region 21 with fail
        have HBn : Aside0 (BX w0 w (w4.setCell ⟨p, 0, none⟩ (.int .i64 3)) g p sk (n + 1) #[.int .i64 3, .bool false, .slice none 0 0, .slice none 0 0, .slice none 0 0]) := ⟨by simpa using HB.out.set 0 (.int .i64 3)⟩
        clear HB hf0 hcj0 pe hcv
        have HB := HBn
        clear HBn
        generalize (w4.setCell ⟨p, 0, none⟩ (.int .i64 3)) = w5 at *
        have HBa := Aside0.mk (HB.out.below (below_alloc (Below.refl _ w5) (.cells ([sTarget].map Value.string).toArray 9)))
        have HGL : Aside0 (w5.heap.size ≠ g) := ⟨by have := HB.out.lg; have := HB.out.kp.1; omega⟩
        go_wp2_with fail
        refine (word_any w0 (w5.alloc (.cells ([sTarget].map Value.string).toArray 9)) g sk (n + 1) (some ⟨w5.heap.size, 0, none⟩) 1 [sTarget] HBa.out.rd (by omega) (lit_C (by omega) (n := 1) rfl HGL.out 9) (by decide)).mono ?_
        rintro e_ w6 ⟨rfl, hr, hk⟩
        clear HB
        have HB := Aside0.mk (HBa.out.keep hr hk)
        clear HBa hr hk HGL
        have hlv := wdS_len [sTarget] sk
        obtain ⟨sv, hsv⟩ : ∃ q, wdS sk [sTarget] = q := ⟨_, rfl⟩
        have HSV := Aside0.mk hsv
        rw [hsv] at HB hlv
        clear hsv
        go_wp2_with fail
        refine (text_any w0 w6 g sv (n + 1) HB.out.rd (by omega)).mono ?_
        rintro e_ wd ⟨Ad, cd, rfl, hc, hC, hr, hk, h8⟩
        have HBn := Aside0.mk (HB.out.keep hr hk)
        clear HB
        have HB := HBn
        clear HBn
        have HXd := Aside0.mk (And.intro hc (And.intro hC h8))
        clear hc hC hr hk h8
        have hlend := txS_len sv
        obtain ⟨ld, hl1⟩ : ∃ q, (txS sv).1 = q := ⟨_, rfl⟩
        obtain ⟨sd, hs1⟩ : ∃ q, (txS sv).2 = q := ⟨_, rfl⟩
        have HSd : Aside0 (txS sv = (ld, sd)) := ⟨by rw [← hl1, ← hs1]⟩
        rw [hl1] at HXd hlend ⊢
        rw [hs1] at HB hlend
        clear hl1 hs1
        have hdl : ld.length ≤ 1073741824 := by omega
        go_wp2_with fail
        refine (clone_any Ad cd ld wd (Kd.C_below HXd.out.2.1 HB.out.rd.b) (by omega)).mono ?_
        rintro e_ we ⟨A', c', rfl, hRd, hbd⟩
        have HBn := Aside0.mk (HB.out.below hbd)
        have HD := Aside0.mk hRd
        have HGD : Aside0 (g < wd.heap.size ∧ p < wd.heap.size ∧ w.heap.size ≤ wd.heap.size) := ⟨by have := HB.out.lg; have := HB.out.kp.1; have := blk_lt HB.out.bx; omega⟩
        clear HB hbd hRd
        have HB := HBn
        clear HBn
        have hf2 := blk_frozen HB.out.bx 2
        have hcj2 := blk_cell HB.out.bx 2
        go_upto_region 23 with fail
        have HBn : Aside0 (BX w0 w (we.setCell ⟨p, 2, none⟩ (.slice A' ld.length c')) g p sd (n + 1) #[.int .i64 3, .bool false, .slice A' ld.length c', .slice none 0 0, .slice none 0 0]) := ⟨by simpa using HB.out.set 2 (.slice A' ld.length c')⟩
        have HDn := Aside0.mk (data_far (p := p) (j := 2) (u := .slice A' ld.length c') HD.out HGD.out.2.1)
        clear HB HD hf2 hcj2
        have HB := HBn
        have HD := HDn
        clear HBn HDn
        generalize (we.setCell ⟨p, 2, none⟩ (.slice A' ld.length c')) = wf at *
        have HBa := Aside0.mk (HB.out.below (below_alloc (Below.refl _ wf) (.cells ([sR].map Value.string).toArray 9)))
        have HDa := Aside0.mk (Kd.R_below HD.out (below_alloc (Below.refl _ wf) (.cells ([sR].map Value.string).toArray 9)))
        have HGL : Aside0 (wf.heap.size ≠ g) := ⟨by have := HB.out.lg; have := HB.out.kp.1; omega⟩
        go_wp2_with fail
        refine (word_any w0 (wf.alloc (.cells ([sR].map Value.string).toArray 9)) g sd (n + 1) (some ⟨wf.heap.size, 0, none⟩) 1 [sR] HBa.out.rd (by omega) (lit_C (by omega) (n := 1) rfl HGL.out 9) (by decide)).mono ?_
        rintro e_ wg ⟨rfl, hr, hk⟩
        clear HB
        have HB := Aside0.mk (HBa.out.keep hr hk)
        clear HD
        have HD := Aside0.mk (data_keep (g := g) HDa.out hk HGD.out.1)
        clear HDa
        clear HBa hr hk HGL
        obtain ⟨b0, b1, b2, b3, b4⟩ := cells5 HB.out.bx
        have f0 := blk_frozen HB.out.bx 0
        have f1 := blk_frozen HB.out.bx 1
        have f2 := blk_frozen HB.out.bx 2
        have f3 := blk_frozen HB.out.bx 3
        have f4 := blk_frozen HB.out.bx 4
        have HF := Aside0.mk HB.out.same
        have HM := Aside0.mk (data_M (k := 3) (ex := false) HD.out)
        have HLO : Aside0 (p < wd.heap.size ∧ w.heap.size ≤ wd.heap.size) := ⟨And.intro HGD.out.2.1 HGD.out.2.2⟩
        have HG := Aside0.mk (data_G (k := 3) (ex := false) (F := F) (by decide) HXd.out.2.2 hdl)
        have HTT := Aside0.mk (HTB.out.trans (by rw [symS_of HSV.out HSd.out rfl]))
        go_wp2_with fail
        exact bodyPost_ret (results_cell_row rfl _ _ p 26 _ (0, 0) _ rfl HF.out.bx Try.underlying26 rfl (by kernel_rfl)) rfl (ND_post HTT.out (k26.M_lower HLO.out.2 (M_same HM.out HLO.out.1)) HG.out HF.out.rd HF.out.kp)
      · by_cases hdir : lk = bytesOf sDir
        · have e_sReg : (yk.toList == [114, 101, 103, 117, 108, 97, 114]) = false := by simpa using fun h => hreg ((hsik sReg _ rfl).1 h)
          have e_sSym : (yk.toList == [115, 121, 109, 108, 105, 110, 107]) = false := by simpa using fun h => hsym ((hsik sSym _ rfl).1 h)
          have e_sDir : (yk.toList == [100, 105, 114, 101, 99, 116, 111, 114, 121]) = true := by rw [(hsik sDir _ rfl).2 hdir]; simp
          have HTB := Aside0.mk (show T = _ from by rw [HTQ.out, if_neg (fun h => h hq), if_neg hreg, if_neg hsym, if_pos hdir])
          clear hreg hsym hdir HTQ hsik hq
          have hf0 := blk_frozen HB.out.bx 0
          have hcj0 := (blk_cell HB.out.bx 0)
          go_upto_region 26 with fail
          have HBn : Aside0 (BX w0 w (w4.setCell ⟨p, 0, none⟩ (.int .i64 2)) g p sk (n + 1) #[.int .i64 2, .bool false, .slice none 0 0, .slice none 0 0, .slice none 0 0]) := ⟨by simpa using HB.out.set 0 (.int .i64 2)⟩
          clear HB hf0 hcj0 pe hcv
          have HB := HBn
          clear HBn
          generalize (w4.setCell ⟨p, 0, none⟩ (.int .i64 2)) = w5 at *
          have hgp : g < w5.heap.size ∧ p < w5.heap.size := by have := HB.out.lg; have := HB.out.kp.1; have := blk_lt HB.out.bx; omega
          have HGP := Aside0.mk hgp
          have HW0P : Aside0 (w0.heap.size ≤ p) := ⟨by have := HB.out.lp; have := HB.out.lg; have := HB.out.rd.lo; omega⟩
          have HENT := Aside0.mk (entries_any w0 g F IH.out deep (by omega) sk (n + 1) p w5 ⟨HB.out.rd, HB.out.bx, Kd.R_nil _ _ _ _ _, Kd.R_nil _ _ _ _ _, Kept.refl _ _, HB.out.np, hgp.1, hgp.2⟩ HW0P.out (by omega) (by omega))
          clear hgp
          obtain ⟨R, hR9⟩ : ∃ q, entS (nodeS F (deep + 1)) (sk.1.length + 1) (sk, n + 1) ([], []) = q := ⟨_, rfl⟩
          rw [hR9] at HTB HENT
          clear hR9
          go_wp2_with fail
          refine HENT.out.mono ?_
          rintro e_ w6 ⟨rfl, v3, v4, hen, hg1, hg2, hg3, hg4⟩
          obtain ⟨A3, c3, rfl⟩ := Kd.R_slice hen.rn
          obtain ⟨A4, c4, rfl⟩ := Kd.R_slice hen.rk
          have HM5 := Aside0.mk (k26_mkM w6 w5.heap.size (fun _ => True) ⟨2, false, [], R.1.1, R.1.2⟩ (Kd.R_nil _ _ _ _ _) hen.rn (Kd.R_mono hen.rk (fun _ _ => trivial)))
          have HG5 : Aside0 (GT (F + 1) ⟨2, false, [], R.1.1, R.1.2⟩) := ⟨⟨by show (Lit.int .i64 2).wf = true; decide, ⟨by simp, by simp, fun x h => by cases h⟩, ⟨by show R.1.1.length ≤ maxLen; simp [maxLen]; omega, by show R.1.1.length * 16 ≤ _; omega, fun s h => Nat.le_trans (hg2 s h) (by decide)⟩, by show R.1.2.length ≤ maxLen; simp [maxLen]; omega, by show R.1.2.length * 88 ≤ _; omega, hg4⟩⟩
          have HBn : Aside0 (BX w0 w w6 g p R.2.1 R.2.2 #[.int .i64 2, .bool false, .slice none 0 0, .slice A3 R.1.1.length c3, .slice A4 R.1.2.length c4]) := ⟨⟨hen.rd, hen.bx, kept_but HB.out.kp hen.kp HB.out.lp, HB.out.np, HB.out.lp, HB.out.lg⟩⟩
          have HLO5 : Aside0 (p < w5.heap.size ∧ w.heap.size ≤ w5.heap.size) := ⟨HGP.out.2, HB.out.kp.1⟩
          clear HB hen hg1 hg2 hg3 hg4 HENT
          have HB := HBn
          clear HBn
          obtain ⟨b0, b1, b2, b3, b4⟩ := cells5 HB.out.bx
          have f0 := blk_frozen HB.out.bx 0
          have f1 := blk_frozen HB.out.bx 1
          have f2 := blk_frozen HB.out.bx 2
          have f3 := blk_frozen HB.out.bx 3
          have f4 := blk_frozen HB.out.bx 4
          have HF := Aside0.mk HB.out.same
          have HM := Aside0.mk (HM5.out)
          have HLO : Aside0 (p < w5.heap.size ∧ w.heap.size ≤ w5.heap.size) := ⟨HLO5.out.1, HLO5.out.2⟩
          have HG := Aside0.mk (HG5.out)
          have HTT := Aside0.mk (HTB.out)
          go_wp2_with fail
          exact bodyPost_ret (results_cell_row rfl _ _ p 26 _ (0, 0) _ rfl HF.out.bx Try.underlying26 rfl (by kernel_rfl)) rfl (ND_post HTT.out (k26.M_lower HLO.out.2 (M_same HM.out HLO.out.1)) HG.out HF.out.rd HF.out.kp)
        · have e_sReg : (yk.toList == [114, 101, 103, 117, 108, 97, 114]) = false := by simpa using fun h => hreg ((hsik sReg _ rfl).1 h)
          have e_sSym : (yk.toList == [115, 121, 109, 108, 105, 110, 107]) = false := by simpa using fun h => hsym ((hsik sSym _ rfl).1 h)
          have e_sDir : (yk.toList == [100, 105, 114, 101, 99, 116, 111, 114, 121]) = false := by simpa using fun h => hdir ((hsik sDir _ rfl).1 h)
          have HTB : Aside0 (T = (z0, flS sk 3, n + 1)) := ⟨by rw [HTQ.out, if_neg (fun h => h hq), if_neg hreg, if_neg hsym, if_neg hdir]⟩
          clear hreg hsym hdir HTQ hsik hq
          go_wp2_with fail
          refine (fail_any w0 w4 g sk (n + 1) 3 HB.out.rd).mono ?_
          rintro e_ w5 ⟨rfl, hr, hk⟩
          have HBn := Aside0.mk (HB.out.keep hr hk)
          clear HB hr hk pe
          have HB := HBn
          clear HBn
          obtain ⟨b0, b1, b2, b3, b4⟩ := cells5 HB.out.bx
          have f0 := blk_frozen HB.out.bx 0
          have f1 := blk_frozen HB.out.bx 1
          have f2 := blk_frozen HB.out.bx 2
          have f3 := blk_frozen HB.out.bx 3
          have f4 := blk_frozen HB.out.bx 4
          have HF := Aside0.mk HB.out.same
          have HM := Aside0.mk (z0_M w5 (p + 1))
          have HLO : Aside0 (p < (p + 1) ∧ w.heap.size ≤ (p + 1)) := ⟨And.intro (Nat.lt_succ_self p) (by rw [HP.out]; exact Nat.le_succ p)⟩
          have HG := Aside0.mk (GT_z0 F)
          have HTT := Aside0.mk (HTB.out)
          go_wp2_with fail
          exact bodyPost_ret (results_cell_row rfl _ _ p 26 _ (0, 0) _ rfl HF.out.bx Try.underlying26 rfl (by kernel_rfl)) rfl (ND_post HTT.out (k26.M_lower HLO.out.2 (M_same HM.out HLO.out.1)) HG.out HF.out.rd HF.out.kp)
  · have he2 : (sk.2 != 0) = true := by simpa using hq
    have HTB : Aside0 (T = (z0, sk, n + 1)) := ⟨by rw [HTQ.out, if_pos hq]⟩
    clear hq HTQ
    obtain ⟨b0, b1, b2, b3, b4⟩ := cells5 HB.out.bx
    have f0 := blk_frozen HB.out.bx 0
    have f1 := blk_frozen HB.out.bx 1
    have f2 := blk_frozen HB.out.bx 2
    have f3 := blk_frozen HB.out.bx 3
    have f4 := blk_frozen HB.out.bx 4
    have HF := Aside0.mk HB.out.same
    have HM := Aside0.mk (z0_M w4 (p + 1))
    have HLO : Aside0 (p < (p + 1) ∧ w.heap.size ≤ (p + 1)) := ⟨And.intro (Nat.lt_succ_self p) (by rw [HP.out]; exact Nat.le_succ p)⟩
    have HG := Aside0.mk (GT_z0 F)
    have HTT := Aside0.mk (HTB.out)
    go_wp2_with fail
    exact bodyPost_ret (results_cell_row rfl _ _ p 26 _ (0, 0) _ rfl HF.out.bx Try.underlying26 rfl (by kernel_rfl)) rfl (ND_post HTT.out (k26.M_lower HLO.out.2 (M_same HM.out HLO.out.1)) HG.out HF.out.rd HF.out.kp)
end Go.Proofs.Ythhajkmeadapgaa.Tree
