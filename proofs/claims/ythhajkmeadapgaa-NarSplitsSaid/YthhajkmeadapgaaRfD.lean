/- nar's reference: node walked, its ends. Own work; printed by gen_rfd.py. -/
import Derived.Test.YthhajkmeadapgaaRfC
namespace Go.Proofs.Ythhajkmeadapgaa.Tree
set_option linter.unusedVariables false
set_option linter.unusedSimpArgs false
open Go.RowKit Go.Proofs.Ythhajkmeadapgaa.PL Go.Proofs.Ythhajkmeadapgaa.Mn Go.Proofs.YthhajkmeadapgaaW.PrintWords Go.Proofs.YthhajkmeadapgaaW.PrintLast Go.Proofs.YthhajkmeadapgaaW.PrintMore
/-- the reference's node, for so many floors below -/
def NRP (w0 w : World) (g F : Nat) (T : S26 × RS × Nat) (e : Ending) (w' : World) : Prop := ∃ cs : Array Value, e = .returned (.agg cs) ∧ KF (fun k => w.heap.size ≤ k ∧ k < w'.heap.size) w' T.1 cs.toList ∧ GT F T.1 ∧ RR w0 w' g T.2.1 T.2.2 ∧ KeepBut w w' g none
def NRC (w0 : World) (g F : Nat) : Prop := ∀ (deep : Nat) (s : RS) (n : Nat) (w : World), deep + F = 66 → RR w0 w g s n → s.1.length ≤ 1073741824 → n + s.1.length ≤ 1099511627776 →
  Calls Try.prog 50 #[.pointer (some ⟨g, 0, none⟩), .int .i64 (deep : Int)] w (NRP w0 w g F (nodeR F deep (s, n)))
theorem NR_post {T : S26 × RS × Nat} {w0 w w' : World} {g F m : Nat} {x : S26} {q : RS} {cs : Array Value} (hT : T = (x, q, m)) (hM : KF (fun k => w.heap.size ≤ k ∧ k < w'.heap.size) w' x cs.toList) (hG : GT F x) (hr : RR w0 w' g q m) (hk : KeepBut w w' g none) : NRP w0 w g F T (.returned (.agg cs)) w' := by
  subst hT
  exact ⟨cs, rfl, hM, hG, hr, hk⟩
theorem KF_z0 (D : Nat → Prop) (w : World) : KF D w z0 [.int .i64 0, .bool false, .slice none 0 0, .slice none 0 0, .slice none 0 0] := fun w' _ => k26_mk w' z0 (Nat.le_refl _) (Kd.C_nil _ _) (Nat.le_refl _) (Kd.C_nil _ _) (Nat.le_refl _) (Kd.C_nil _ _)
theorem BR.fin {w0 w w1 wr : World} {g p q : Nat} {s s0 : RS} {n n0 : Nat} {cs cs2 : Array Value} (h1 : BR w0 w w1 g p s0 n0 cs) (h2 : BR w0 w1 wr g q s n cs2) : BR w0 w wr g p s n cs :=
  ⟨h2.rd, h2.kp.blk h1.bx h1.np (by simp), h1.kp.trans h2.kp (.inl rfl), h1.np, h1.lp, h1.lg⟩
theorem KF_five {w w1 wr : World} {p : Nat} {x : S26} {cs : List Value} {a b c d e : Value} (h : KF (fun k => w1.heap.size ≤ k ∧ k < wr.heap.size) wr x cs) (hp : p < w1.heap.size) (hw : w.heap.size ≤ w1.heap.size) :
    KF (fun k => w.heap.size ≤ k ∧ k < (((((wr.setCell ⟨p, 0, none⟩ a).setCell ⟨p, 1, none⟩ b).setCell ⟨p, 2, none⟩ c).setCell ⟨p, 3, none⟩ d).setCell ⟨p, 4, none⟩ e).heap.size) (((((wr.setCell ⟨p, 0, none⟩ a).setCell ⟨p, 1, none⟩ b).setCell ⟨p, 2, none⟩ c).setCell ⟨p, 3, none⟩ d).setCell ⟨p, 4, none⟩ e) x cs := by
  have st : ∀ (W : World) (j : Nat) (v : Value) (k : Nat), k ≠ p → (W.setCell ⟨p, j, none⟩ v).heap[k]? = W.heap[k]? := fun W j v k hk => Below.heap_setCell W ⟨p, j, none⟩ v k hk
  refine (h.move (fun k hk => ?_)).mono (fun k hk => ?_)
  · have hk : k ≠ p := by omega
    rw [st _ 4 e k hk, st _ 3 d k hk, st _ 2 c k hk, st _ 1 b k hk, st _ 0 a k hk]
  · simp only [World.setCell, Array.size_modify]
    omega
set_option maxRecDepth 20000 in
set_option maxHeartbeats 4000000 in
theorem rnode_bad (w0 : World) (g F : Nat) (deep : Nat) (s : RS) (n : Nat) (w : World) (hd : deep + F = 65) (hR : RR w0 w g s n) (hl : s.1.length ≤ 1073741824) (hn : n + s.1.length ≤ 1099511627776) (hs : s.2 ≠ 0) :
    Calls Try.prog 50 #[.pointer (some ⟨g, 0, none⟩), .int .i64 (deep : Int)] w (NRP w0 w g (F + 1) (nodeR (F + 1) deep (s, n))) := by
  obtain ⟨T, hT⟩ : ∃ q, nodeR (F + 1) deep (s, n) = q := ⟨_, rfl⟩
  rw [hT]
  have HT := Aside0.mk hT
  clear hT
  have hgl : g < w.heap.size := by obtain ⟨A, c, h1, -, -⟩ := hR.blk; exact blk_lt h1
  have HP1 : Aside0 (BR w0 w (w.alloc (.cells #[.int .i64 0, .bool false, .slice none 0 0, .slice none 0 0, .slice none 0 0] 26)) g w.heap.size s n #[.int .i64 0, .bool false, .slice none 0 0, .slice none 0 0, .slice none 0 0]) :=
    ⟨⟨hR.keep (below_alloc (Below.refl _ w) _), heap_alloc_new w _, KeepBut.of_below (below_alloc (Below.refl _ w) _) g none, by omega, Nat.le_refl _, hgl⟩⟩
  have he : (s.2 != 0) = true := by simpa using hs
  have HTT : Aside0 (T = (z0, s, n)) := ⟨by rw [← HT.out]; exact nodeR_bad hs⟩
  clear hs
  clear hR hgl
  go_enter Try.func50, Try.ntmps50
  go_upto_region 1 with fail
  generalize (w.alloc (.cells #[.int .i64 0, .bool false, .slice none 0 0, .slice none 0 0, .slice none 0 0] 26)) = w1 at *
  obtain ⟨p, hp⟩ : ∃ q, w.heap.size = q := ⟨_, rfl⟩
  rw [hp] at HP1 ⊢
  have HP : Aside0 (w.heap.size = p) := ⟨hp⟩
  clear hp
  obtain ⟨A, c, hblk, hc, hC⟩ := HP1.out.rd.blk
  obtain ⟨⟨p0, p1, p2⟩, q0, q1, q2⟩ := cells3 hblk
  obtain ⟨b0, b1, b2, b3, b4⟩ := cells5 HP1.out.bx
  have f0 := blk_frozen HP1.out.bx 0
  have f1 := blk_frozen HP1.out.bx 1
  have f2 := blk_frozen HP1.out.bx 2
  have f3 := blk_frozen HP1.out.bx 3
  have f4 := blk_frozen HP1.out.bx 4
  have HF := Aside0.mk (HP1.out.same (.int .i64 0) (.bool false) (.slice none 0 0) (.slice none 0 0) (.slice none 0 0))
  go_wp2_with fail
  exact bodyPost_ret (results_cell_row rfl _ _ p 26 _ (0, 0) _ rfl HF.out.bx Try.underlying26 rfl (by kernel_rfl)) rfl (NR_post HTT.out (KF_z0 _ _) (GT_z0 F) HF.out.rd HF.out.kp)
set_option maxRecDepth 20000 in
set_option maxHeartbeats 4000000 in
theorem rnode_long (w0 : World) (g F : Nat) (deep : Nat) (s : RS) (n : Nat) (w : World) (hd : deep + F = 65) (hR : RR w0 w g s n) (hl : s.1.length ≤ 1073741824) (hn : n + s.1.length ≤ 1099511627776) (hs : s.2 = 0) (hq : 65536 < n + 1 ∨ 64 < deep) :
    Calls Try.prog 50 #[.pointer (some ⟨g, 0, none⟩), .int .i64 (deep : Int)] w (NRP w0 w g (F + 1) (nodeR (F + 1) deep (s, n))) := by
  obtain ⟨T, hT⟩ : ∃ q, nodeR (F + 1) deep (s, n) = q := ⟨_, rfl⟩
  rw [hT]
  have HT := Aside0.mk hT
  clear hT
  have hgl : g < w.heap.size := by obtain ⟨A, c, h1, -, -⟩ := hR.blk; exact blk_lt h1
  have HP1 : Aside0 (BR w0 w (w.alloc (.cells #[.int .i64 0, .bool false, .slice none 0 0, .slice none 0 0, .slice none 0 0] 26)) g w.heap.size s n #[.int .i64 0, .bool false, .slice none 0 0, .slice none 0 0, .slice none 0 0]) :=
    ⟨⟨hR.keep (below_alloc (Below.refl _ w) _), heap_alloc_new w _, KeepBut.of_below (below_alloc (Below.refl _ w) _) g none, by omega, Nat.le_refl _, hgl⟩⟩
  have HTT : Aside0 (T = (z0, (s.1, 5), n + 1)) := ⟨by rw [← HT.out]; exact nodeR_long hs hq⟩
  clear hR hgl
  go_enter Try.func50, Try.ntmps50
  go_upto_region 1 with fail
  generalize (w.alloc (.cells #[.int .i64 0, .bool false, .slice none 0 0, .slice none 0 0, .slice none 0 0] 26)) = w1 at *
  obtain ⟨p, hp⟩ : ∃ q, w.heap.size = q := ⟨_, rfl⟩
  rw [hp] at HP1 ⊢
  have HP : Aside0 (w.heap.size = p) := ⟨hp⟩
  clear hp
  obtain ⟨A, c, hblk, hc, hC⟩ := HP1.out.rd.blk
  obtain ⟨⟨p0, p1, p2⟩, q0, q1, q2⟩ := cells3 hblk
  have he : (s.2 != 0) = false := by simp [hs]
  have hst : RR w0 (w1.setCell ⟨g, 2, none⟩ (.int .i64 ((n : Int) + 1))) g s (n + 1) := ⟨⟨A, c, by simpa using blk_set hblk 2 (.int .i64 ((n : Int) + 1)), hc, hC⟩, below_set HP1.out.rd.b HP1.out.rd.lo, HP1.out.rd.lo, HP1.out.rd.b8⟩
  have HB := Aside0.mk (And.intro hst (KeepBut.set_ (KeepBut.refl w1 g none) 2 (.int .i64 ((n : Int) + 1))))
  clear hst hblk hc hC
  go_upto_region 4 with fail
  clear p0 p1 p2 q0 q1 q2 he
  generalize (w1.setCell ⟨g, 2, none⟩ (.int .i64 ((n : Int) + 1))) = w2 at *
  obtain ⟨Ar, cr, hblk, -, -⟩ := HB.out.1.blk
  obtain ⟨⟨-, pe, pn⟩, -, qe, -⟩ := cells3 hblk
  rw [show (((n + 1 : Nat)) : Int) = (n : Int) + 1 from by omega] at pn
  clear hblk
  by_cases h1 : 65536 < n + 1
  · have h1' : decide ((n : Int) + 1 > 65536) = true := decide_eq_true (by omega)
    clear hq
    have HE : Aside0 (BR w0 w (w2.setCell ⟨g, 1, none⟩ (.int .i64 5)) g p (s.1, 5) (n + 1) #[.int .i64 0, .bool false, .slice none 0 0, .slice none 0 0, .slice none 0 0]) := ⟨⟨HB.out.1.err 5, (KeepBut.set_ HB.out.2 1 _).blk HP1.out.bx HP1.out.np (by simp), HP1.out.kp.trans (KeepBut.set_ HB.out.2 1 _) (.inl rfl), HP1.out.np, HP1.out.lp, HP1.out.lg⟩⟩
    go_upto_region 6 with fail
    generalize (w2.setCell ⟨g, 1, none⟩ (.int .i64 5)) = w3 at *
    clear pe pn qe
    obtain ⟨b0, b1, b2, b3, b4⟩ := cells5 HE.out.bx
    have f0 := blk_frozen HE.out.bx 0
    have f1 := blk_frozen HE.out.bx 1
    have f2 := blk_frozen HE.out.bx 2
    have f3 := blk_frozen HE.out.bx 3
    have f4 := blk_frozen HE.out.bx 4
    have HF := Aside0.mk (HE.out.same (.int .i64 0) (.bool false) (.slice none 0 0) (.slice none 0 0) (.slice none 0 0))
    go_wp2_with fail
    exact bodyPost_ret (results_cell_row rfl _ _ p 26 _ (0, 0) _ rfl HF.out.bx Try.underlying26 rfl (by kernel_rfl)) rfl (NR_post HTT.out (KF_z0 _ _) (GT_z0 F) HF.out.rd HF.out.kp)
  · have h1' : decide ((n : Int) + 1 > 65536) = false := decide_eq_false (by omega)
    have h2' : decide ((deep : Int) > 64) = true := decide_eq_true (by omega)
    clear hq
    have HE : Aside0 (BR w0 w (w2.setCell ⟨g, 1, none⟩ (.int .i64 5)) g p (s.1, 5) (n + 1) #[.int .i64 0, .bool false, .slice none 0 0, .slice none 0 0, .slice none 0 0]) := ⟨⟨HB.out.1.err 5, (KeepBut.set_ HB.out.2 1 _).blk HP1.out.bx HP1.out.np (by simp), HP1.out.kp.trans (KeepBut.set_ HB.out.2 1 _) (.inl rfl), HP1.out.np, HP1.out.lp, HP1.out.lg⟩⟩
    go_upto_region 6 with fail
    generalize (w2.setCell ⟨g, 1, none⟩ (.int .i64 5)) = w3 at *
    clear pe pn qe
    obtain ⟨b0, b1, b2, b3, b4⟩ := cells5 HE.out.bx
    have f0 := blk_frozen HE.out.bx 0
    have f1 := blk_frozen HE.out.bx 1
    have f2 := blk_frozen HE.out.bx 2
    have f3 := blk_frozen HE.out.bx 3
    have f4 := blk_frozen HE.out.bx 4
    have HF := Aside0.mk (HE.out.same (.int .i64 0) (.bool false) (.slice none 0 0) (.slice none 0 0) (.slice none 0 0))
    go_wp2_with fail
    exact bodyPost_ret (results_cell_row rfl _ _ p 26 _ (0, 0) _ rfl HF.out.bx Try.underlying26 rfl (by kernel_rfl)) rfl (NR_post HTT.out (KF_z0 _ _) (GT_z0 F) HF.out.rd HF.out.kp)
end Go.Proofs.Ythhajkmeadapgaa.Tree
