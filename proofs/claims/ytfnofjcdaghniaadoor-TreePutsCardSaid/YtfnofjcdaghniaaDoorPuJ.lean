/- tree: put, walked. Own work; printed by gen_pu.py. -/
import Derived.Test.YtfnofjcdaghniaaDoorPaJ
namespace Go.Proofs.YtfnofjcdaghniaaDoor.Tree
set_option linter.unusedVariables false
set_option linter.unusedSimpArgs false
open Go.RowKit Go.Proofs.YtfnofjcdaghniaaDoor.PL Go.Proofs.YtfnofjcdaghniaaDoor.Mt Go.Proofs.YtfnofjcdaghniaaDoorW.PrintWords Go.Proofs.YtfnofjcdaghniaaDoorW.PrintLast Go.Proofs.YtfnofjcdaghniaaDoorW.PrintMore
theorem results_c1 {P : Program} {fn : Func} {p u : Tmp} {ty : TypeId} (h : fn.results = #[.cell p ty, .tmp u]) (tmps : Array Value) (w : World) (g : Nat) (t : TypeId) (cs : Array Value) (fr : Nat × Nat) (d : TypeDesc)
    (hp : tmps.getD p undef = .pointer (some ⟨g, 0, none⟩)) (hg : w.heap[g]? = some (.cells cs t fr))
    (hu : P.underlying ty = some d) (hd : (match d with | .struct _ | .array _ _ => true | _ => false) = true) (hi : (P.info? ty).map (·.size) = some cs.size) :
    (results fn tmps).run P w = .ok (.tuple #[.agg cs, tmps.getD u undef]) w := by
  have hp' : tmps[p]?.getD undef = .pointer (some ⟨g, 0, none⟩) := by simpa using hp
  simp [results, h, hp', asAddr, run_loadVar_row w g t ty cs fr d hg hu hd hi]
theorem box_same {wr : World} {p : Nat} {a0 b0 c0 d0 e0 : Value} (h : wr.heap[p]? = some (.cells #[a0, b0, c0, d0, e0] 26 (0, 0))) (a b c d e : Value) :
    (((((wr.setCell ⟨p, 0, none⟩ a).setCell ⟨p, 1, none⟩ b).setCell ⟨p, 2, none⟩ c).setCell ⟨p, 3, none⟩ d).setCell ⟨p, 4, none⟩ e).heap[p]? = some (.cells #[a, b, c, d, e] 26 (0, 0)) := by
  have := blk_set (blk_set (blk_set (blk_set (blk_set h 0 a) 1 b) 2 c) 3 d) 4 e
  simpa using this
/-- five stores into one box leave the other blocks -/
theorem box_far {wr : World} {p k : Nat} (h : k ≠ p) (a b c d e : Value) :
    (((((wr.setCell ⟨p, 0, none⟩ a).setCell ⟨p, 1, none⟩ b).setCell ⟨p, 2, none⟩ c).setCell ⟨p, 3, none⟩ d).setCell ⟨p, 4, none⟩ e).heap[k]? = wr.heap[k]? := by
  have st : ∀ (W : World) (j : Nat) (v : Value), (W.setCell ⟨p, j, none⟩ v).heap[k]? = W.heap[k]? := fun W j v => Below.heap_setCell W ⟨p, j, none⟩ v k h
  rw [st _ 4 e, st _ 3 d, st _ 2 c, st _ 1 b, st _ 0 a]
theorem box_below {w0 wr : World} {p : Nat} (h : Below w0.heap.size w0 wr) (hp : w0.heap.size ≤ p) (a b c d e : Value) :
    Below w0.heap.size w0 (((((wr.setCell ⟨p, 0, none⟩ a).setCell ⟨p, 1, none⟩ b).setCell ⟨p, 2, none⟩ c).setCell ⟨p, 3, none⟩ d).setCell ⟨p, 4, none⟩ e) :=
  below_set (below_set (below_set (below_set (below_set h hp) hp) hp) hp) hp
theorem far5 {W : World} {p q j : Nat} {v : Value} (hp : p ≠ q) (h : W.cell? ⟨q, j, none⟩ = some v) (a b c d e : Value) :
    (((((W.setCell ⟨p, 0, none⟩ a).setCell ⟨p, 1, none⟩ b).setCell ⟨p, 2, none⟩ c).setCell ⟨p, 3, none⟩ d).setCell ⟨p, 4, none⟩ e).cell? ⟨q, j, none⟩ = some v := by
  have st : ∀ {V : World} (i : Nat) (u : Value), V.cell? ⟨q, j, none⟩ = some v → (V.setCell ⟨p, i, none⟩ u).cell? ⟨q, j, none⟩ = some v := fun i u h =>
    (World.cell?_of_block (Below.heap_setCell _ ⟨p, i, none⟩ u q (fun e => hp e.symm))).trans h
  exact st 4 e (st 3 d (st 2 c (st 1 b (st 0 a h))))
def z0 : S26 := ⟨0, false, [], [], []⟩
def dir0 : S26 := ⟨2, false, [], [], []⟩
abbrev bx (t : S26) (A2 : Option Addr) (c2 : Nat) (A3 : Option Addr) (c3 : Nat) (A4 : Option Addr) (c4 : Nat) : Obj := .cells #[.int .i64 t.f0, .bool t.f1, .slice A2 t.f2.length c2, .slice A3 t.f3.length c3, .slice A4 t.f4.length c4] 26
theorem TR_nil (w : World) (k : Int) : TR w ⟨k, false, [], [], []⟩ none 0 none 0 none 0 := ⟨Nat.le_refl _, Kd.C_nil _ _, Nat.le_refl _, Kd.C_nil _ _, Nat.le_refl _, Kd.C_nil _ _⟩
/-- put, as a plain function: the tree, what is wrong -/
def putS : List ByteArray → S26 → S26 → S26 × Int
  | [], _, x => (x, 0)
  | n :: l, t, x =>
    if t.f0 ≠ 2 then (z0, 8)
    else if hasS t.f3 n = true then
      let r := putS l (t.f4.getD (posS t.f3 n) dir0) x
      if r.2 ≠ 0 then (z0, r.2) else (⟨t.f0, t.f1, t.f2, t.f3, t.f4.set (posS t.f3 n) r.1⟩, 0)
    else
      let r := putS l dir0 x
      if r.2 ≠ 0 then (z0, r.2) else (⟨t.f0, t.f1, t.f2, t.f3.take (posS t.f3 n) ++ n :: t.f3.drop (posS t.f3 n), t.f4.take (posS t.f3 n) ++ r.1 :: t.f4.drop (posS t.f3 n)⟩, 0)
/-- directories in order, as far down as so many floors -/
def Okt : Nat → S26 → Prop
  | 0, _ => False
  | N + 1, t => t.f3.length = t.f4.length ∧ Srt t.f3 ∧ t.f3.length ≤ 900000 ∧ ∀ u ∈ t.f4, Okt N u
theorem Okt_dir0 : Okt 1 dir0 := ⟨rfl, List.Pairwise.nil, by decide, fun u hu => by simp [dir0] at hu⟩
/-- some blocks are as they were -/
structure Fr (D : Nat → Prop) (w w1 : World) : Prop where
  os : w1.os = w.os
  tape : w1.tape = w.tape
  output : w1.output = w.output
  size : w.heap.size ≤ w1.heap.size
  block : ∀ k, D k → w1.heap[k]? = w.heap[k]?
theorem Fr.refl (D : Nat → Prop) (w : World) : Fr D w w := ⟨rfl, rfl, rfl, Nat.le_refl _, fun _ _ => rfl⟩
theorem Fr.trans {D : Nat → Prop} {a b c : World} (h : Fr D a b) (k : Fr D b c) : Fr D a c := ⟨k.os.trans h.os, k.tape.trans h.tape, k.output.trans h.output, Nat.le_trans h.size k.size, fun i hi => (k.block i hi).trans (h.block i hi)⟩
theorem Fr.below {D : Nat → Prop} {n : Nat} {w w1 : World} (h : Below n w w1) (hd : ∀ k, D k → k < n) : Fr D w w1 := ⟨h.os, h.tape, h.output, h.size, fun k hk => h.block k (hd k hk)⟩
theorem Fr.set {D : Nat → Prop} (w : World) (p : Addr) (v : Value) (hd : ∀ k, D k → k ≠ p.block) : Fr D w (w.setCell p v) := ⟨rfl, rfl, rfl, by simp [World.setCell], fun k hk => Below.heap_setCell w p v k (hd k hk)⟩
theorem Fr.grown {D : Nat → Prop} {w w1 : World} {row : Option Nat} (h : w.grownBy w1 row) (hd : ∀ k, D k → k < w.heap.size ∧ some k ≠ row) : Fr D w w1 := ⟨h.os, h.tape, h.output, h.size, fun k hk => h.block k (hd k hk).1 (hd k hk).2⟩
theorem Fr.box {D : Nat → Prop} (w : World) (p : Nat) (a b c d e : Value) (hd : ∀ k, D k → k ≠ p) : Fr D w (((((w.setCell ⟨p, 0, none⟩ a).setCell ⟨p, 1, none⟩ b).setCell ⟨p, 2, none⟩ c).setCell ⟨p, 3, none⟩ d).setCell ⟨p, 4, none⟩ e) :=
  ((((Fr.set w _ _ hd).trans (Fr.set _ _ _ hd)).trans (Fr.set _ _ _ hd)).trans (Fr.set _ _ _ hd)).trans (Fr.set _ _ _ hd)
theorem Fr.mono {D D' : Nat → Prop} {w w1 : World} (h : Fr D w w1) (hd : ∀ k, D' k → D k) : Fr D' w w1 := ⟨h.os, h.tape, h.output, h.size, fun k hk => h.block k (hd k hk)⟩
/-- a tree that is read wherever the blocks of D are as they are here -/
def KG (D : Nat → Prop) (w : World) (x : S26) (cs : List Value) : Prop := ∀ w1, Fr D w w1 → k26.K w1 x cs
theorem KG.move {D : Nat → Prop} {w w1 : World} {x : S26} {cs : List Value} (h : KG D w x cs) (hf : Fr D w w1) : KG D w1 x cs := fun w2 h2 => h w2 (hf.trans h2)
theorem KG.mono {D D' : Nat → Prop} {w : World} {x : S26} {cs : List Value} (h : KG D w x cs) (hd : ∀ k, D k → D' k) : KG D' w x cs := fun w2 h2 => h w2 (h2.mono hd)
theorem KG.of {w0 w : World} {x : S26} {cs : List Value} (h : k26.K w0 x cs) (hb : Below w0.heap.size w0 w) {D : Nat → Prop} (hd : ∀ k, k < w0.heap.size → D k) : KG D w x cs := fun w2 h2 =>
  k26.K_below (⟨h2.os.trans hb.os, h2.tape.trans hb.tape, h2.output.trans hb.output, Nat.le_trans hb.size h2.size, fun k hk => (h2.block k (hd k hk)).trans (hb.block k hk)⟩ : Below w0.heap.size w0 w2) h
theorem KG.here {D : Nat → Prop} {w : World} {x : S26} {cs : List Value} (h : KG D w x cs) : k26.K w x cs := h w (Fr.refl _ _)
theorem TR.of {w : World} {t : S26} {A2 : Option Addr} {c2 : Nat} {A3 : Option Addr} {c3 : Nat} {A4 : Option Addr} {c4 : Nat} (h : k26.K w t (cs5 t A2 c2 A3 c3 A4 c4)) : TR w t A2 c2 A3 c3 A4 c4 := by
  obtain ⟨B2, d2, B3, d3, B4, d4, e, h1⟩ := k26_open h
  simp only [List.cons.injEq, Value.slice.injEq, true_and, and_true] at e
  obtain ⟨⟨rfl, rfl⟩, ⟨rfl, rfl⟩, rfl, rfl⟩ := e
  exact h1
/-- what a call of put tells -/
def PutP (w0 w : World) (T : S26 × Int) (e : Ending) (w' : World) : Prop := ∃ A2 c2 A3 c3 A4 c4, e = .returned (.tuple #[TV T.1 A2 c2 A3 c3 A4 c4, .int .i64 T.2]) ∧ KG (fun k => k < w0.heap.size ∨ (w.heap.size ≤ k ∧ k < w'.heap.size)) w' T.1 (cs5 T.1 A2 c2 A3 c3 A4 c4) ∧ Below w.heap.size w w'
theorem PutP.of {w0 w w' : World} {x : S26} {k : Int} {R : S26 × Int} (hR : R = (x, k)) {A2 : Option Addr} {c2 : Nat} {A3 : Option Addr} {c3 : Nat} {A4 : Option Addr} {c4 : Nat} (ht : KG (fun k => k < w0.heap.size ∨ (w.heap.size ≤ k ∧ k < w'.heap.size)) w' x (cs5 x A2 c2 A3 c3 A4 c4)) (hb : Below w.heap.size w w') :
    PutP w0 w R (.returned (.tuple #[.agg #[.int .i64 x.f0, .bool x.f1, .slice A2 x.f2.length c2, .slice A3 x.f3.length c3, .slice A4 x.f4.length c4], .int .i64 k])) w' := by
  subst hR
  exact ⟨A2, c2, A3, c3, A4, c4, rfl, ht, hb⟩
theorem KG_nil (D : Nat → Prop) (w : World) (k : Int) : KG D w ⟨k, false, [], [], []⟩ (cs5 ⟨k, false, [], [], []⟩ none 0 none 0 none 0) := fun w1 _ => (TR_nil w1 k).K
theorem PutP.zero {w0 w w' : World} {k : Int} {R : S26 × Int} (hR : R = (z0, k)) (hb : Below w.heap.size w w') :
    PutP w0 w R (.returned (.tuple #[.agg #[.int .i64 0, .bool false, .slice none 0 0, .slice none 0 0, .slice none 0 0], .int .i64 k])) w' := by
  subst hR
  exact ⟨none, 0, none, 0, none, 0, rfl, KG_nil _ _ 0, hb⟩
/-- what put's walk keeps: four boxes -/
structure PW (w wr : World) (a b c : Nat) (oa ob oc : Array Value) : Prop where
  ba : wr.heap[a]? = some (.cells oa 26 (0, 0))
  bb : wr.heap[b]? = some (.cells ob 26 (0, 0))
  bc : wr.heap[c]? = some (.cells oc 26 (0, 0))
  ne : a ≠ b ∧ a ≠ c ∧ b ≠ c
  lo : w.heap.size ≤ a ∧ w.heap.size ≤ b ∧ w.heap.size ≤ c
  bel : Below w.heap.size w wr
theorem PW.step {w wr w2 : World} {a b c : Nat} {oa ob oc : Array Value} (h : PW w wr a b c oa ob oc) (hb : Below wr.heap.size wr w2) : PW w w2 a b c oa ob oc :=
  ⟨(hb.block _ (blk_lt h.ba)).trans h.ba, (hb.block _ (blk_lt h.bb)).trans h.bb, (hb.block _ (blk_lt h.bc)).trans h.bc, h.ne, h.lo, below_then h.bel h.bel.size hb⟩
theorem PW.setc {w wr : World} {a b c : Nat} {oa ob : Array Value} {a0 b0 c0 d0 e0 : Value} (h : PW w wr a b c oa ob #[a0, b0, c0, d0, e0]) (x0 x1 x2 x3 x4 : Value) :
    PW w (((((wr.setCell ⟨c, 0, none⟩ x0).setCell ⟨c, 1, none⟩ x1).setCell ⟨c, 2, none⟩ x2).setCell ⟨c, 3, none⟩ x3).setCell ⟨c, 4, none⟩ x4) a b c oa ob #[x0, x1, x2, x3, x4] :=
  ⟨(box_far h.ne.2.1 _ _ _ _ _).trans h.ba, (box_far h.ne.2.2 _ _ _ _ _).trans h.bb, box_same h.bc _ _ _ _ _, h.ne, h.lo, box_below h.bel h.lo.2.2 _ _ _ _ _⟩
theorem PW.enter (w : World) (t x : S26) (T2 : Option Addr) (e2 : Nat) (T3 : Option Addr) (e3 : Nat) (T4 : Option Addr) (e4 : Nat) (A2 : Option Addr) (c2 : Nat) (A3 : Option Addr) (c3 : Nat) (A4 : Option Addr) (c4 : Nat) :
    PW w (((w.alloc (bx t T2 e2 T3 e3 T4 e4)).alloc (bx x A2 c2 A3 c3 A4 c4)).alloc (.cells #[.int .i64 0, .bool false, .slice none 0 0, .slice none 0 0, .slice none 0 0] 26)) w.heap.size (w.heap.size + 1) (w.heap.size + 1 + 1)
      #[.int .i64 t.f0, .bool t.f1, .slice T2 t.f2.length e2, .slice T3 t.f3.length e3, .slice T4 t.f4.length e4] #[.int .i64 x.f0, .bool x.f1, .slice A2 x.f2.length c2, .slice A3 x.f3.length c3, .slice A4 x.f4.length c4] #[.int .i64 0, .bool false, .slice none 0 0, .slice none 0 0, .slice none 0 0] := by
  obtain ⟨w1, hw1⟩ : ∃ q, w.alloc (bx t T2 e2 T3 e3 T4 e4) = q := ⟨_, rfl⟩
  obtain ⟨w2, hw2⟩ : ∃ q, w1.alloc (bx x A2 c2 A3 c3 A4 c4) = q := ⟨_, rfl⟩
  have h1 : Below w.heap.size w w1 := hw1 ▸ below_alloc (Below.refl _ w) _
  have z1 : w1.heap.size = w.heap.size + 1 := by rw [← hw1]; simp
  have h2 : Below w.heap.size w w2 := hw2 ▸ below_alloc h1 _
  have z2 : w2.heap.size = w.heap.size + 1 + 1 := by rw [← hw2, ← z1]; simp
  have k1 : w1.heap[w.heap.size]? = some (bx t T2 e2 T3 e3 T4 e4) := hw1 ▸ heap_alloc_new w _
  have k2 : w2.heap[w.heap.size + 1]? = some (bx x A2 c2 A3 c3 A4 c4) := by have := heap_alloc_new w1 (bx x A2 c2 A3 c3 A4 c4); rw [z1, hw2] at this; exact this
  have k3 := heap_alloc_new w2 (.cells #[.int .i64 0, .bool false, .slice none 0 0, .slice none 0 0, .slice none 0 0] 26)
  rw [z2] at k3
  rw [hw1, hw2]
  exact ⟨blk_alloc (hw2 ▸ blk_alloc k1 _) _, blk_alloc k2 _, k3, by omega, by omega, below_alloc h2 _⟩
theorem PW.setd {w wr : World} {a b c d : Nat} {oa ob oc : Array Value} (h : PW w wr a b c oa ob oc) (h1 : d ≠ a) (h2 : d ≠ b) (h3 : d ≠ c) (h4 : w.heap.size ≤ d) (x0 x1 x2 x3 x4 : Value) :
    PW w (((((wr.setCell ⟨d, 0, none⟩ x0).setCell ⟨d, 1, none⟩ x1).setCell ⟨d, 2, none⟩ x2).setCell ⟨d, 3, none⟩ x3).setCell ⟨d, 4, none⟩ x4) a b c oa ob oc :=
  ⟨(box_far h1.symm _ _ _ _ _).trans h.ba, (box_far h2.symm _ _ _ _ _).trans h.bb, (box_far h3.symm _ _ _ _ _).trans h.bc, h.ne, h.lo, box_below h.bel h4 _ _ _ _ _⟩
theorem add0 (a : Addr) : a.add 0 = a := by cases a; simp [Addr.add]
theorem bs_quiet {l : List ByteArray} {n : ByteArray} (A : Option Addr) (c : Nat) (w : World) (hs : Srt l) (hl : l.length ≤ 1000000) (hC : Kd.string.C w A l.length l) (hc : l.length ≤ c) (m : Nat) :
    Calls Tryd.prog 38 #[.slice A l.length c, .string n] (w.drewN m) fun e w' => e = .returned (.tuple #[.int .i64 (posS l n : Int), .bool (hasS l n)]) ∧ ∃ q, w' = w.drewN q :=
  (bs_any A c (w.drewN m) hs hl (Kd.C_drewN hC m) hc).mono fun _ _ ⟨he, q, hq⟩ => ⟨he, m + q, by rw [hq, World.drewN_drewN]⟩
set_option maxRecDepth 20000 in
set_option maxHeartbeats 4000000 in
theorem put_nil (t x : S26) (T2 : Option Addr) (e2 : Nat) (T3 : Option Addr) (e3 : Nat) (T4 : Option Addr) (e4 : Nat) (A2 : Option Addr) (c2 : Nat) (A3 : Option Addr) (c3 : Nat) (A4 : Option Addr) (c4 : Nat) (LA : Option Addr) (lc : Nat) (w0 w : World) (hB : Below w0.heap.size w0 w) (hx : TR w0 x A2 c2 A3 c3 A4 c4) :
    Calls Tryd.prog 33 #[TV t T2 e2 T3 e3 T4 e4, .slice LA 0 lc, TV x A2 c2 A3 c3 A4 c4] w (PutP w0 w (x, 0)) := by
  have HX := Aside0.mk (And.intro hx hB)
  clear hx hB
  have HW := Aside0.mk (PW.enter w t x T2 e2 T3 e3 T4 e4 A2 c2 A3 c3 A4 c4)
  go_enter Tryd.func33, Tryd.ntmps33
  go_upto_region 1 with fail
  generalize (((w.alloc (bx t T2 e2 T3 e3 T4 e4)).alloc (bx x A2 c2 A3 c3 A4 c4)).alloc (.cells #[.int .i64 0, .bool false, .slice none 0 0, .slice none 0 0, .slice none 0 0] 26)) = w3 at *
  obtain ⟨a, ha⟩ : ∃ q, w.heap.size = q := ⟨_, rfl⟩
  rw [ha] at HW ⊢
  clear ha
  obtain ⟨b, hb⟩ : ∃ q, a + 1 = q := ⟨_, rfl⟩
  rw [hb] at HW ⊢
  clear hb
  obtain ⟨c, hc⟩ : ∃ q, b + 1 = q := ⟨_, rfl⟩
  rw [hc] at HW ⊢
  clear hc
  obtain ⟨x0, x1, x2, x3, x4⟩ := cells5 HW.out.bb
  obtain ⟨b0, b1, b2, b3, b4⟩ := cells5 HW.out.bc
  have f0 := blk_frozen HW.out.bc 0
  have f1 := blk_frozen HW.out.bc 1
  have f2 := blk_frozen HW.out.bc 2
  have f3 := blk_frozen HW.out.bc 3
  have f4 := blk_frozen HW.out.bc 4
  have HF := Aside0.mk (HW.out.setc (.int .i64 x.f0) (.bool x.f1) (.slice A2 x.f2.length c2) (.slice A3 x.f3.length c3) (.slice A4 x.f4.length c4))
  go_wp2_with fail
  refine bodyPost_ret (results_c1 rfl _ _ c 26 _ (0, 0) _ rfl HF.out.bc Tryd.underlying26 rfl (by kernel_rfl)) rfl ?_
  exact PutP.of rfl (KG.of HX.out.1.K (below_then HX.out.2 HX.out.2.size HF.out.bel) (fun k hk => .inl hk)) HF.out.bel
set_option maxRecDepth 20000 in
set_option maxHeartbeats 4000000 in
theorem put_file (n : ByteArray) (l : List ByteArray) (t x : S26) (T2 : Option Addr) (e2 : Nat) (T3 : Option Addr) (e3 : Nat) (T4 : Option Addr) (e4 : Nat) (A2 : Option Addr) (c2 : Nat) (A3 : Option Addr) (c3 : Nat) (A4 : Option Addr) (c4 : Nat) (LA : Option Addr) (lc : Nat) (w0 w : World) (h2 : t.f0 ≠ 2) (hl : l.length ≤ 1000000) :
    Calls Tryd.prog 33 #[TV t T2 e2 T3 e3 T4 e4, .slice LA (l.length + 1) lc, TV x A2 c2 A3 c3 A4 c4] w (PutP w0 w (putS (n :: l) t x)) := by
  have HP : Aside0 (putS (n :: l) t x = (z0, 8)) := ⟨by rw [putS, if_pos h2]⟩
  have hk : (t.f0 != 2) = true := by simpa using h2
  have hl0 : (((l.length : Nat) : Int) + 1 == 0) = false := beq_eq_false_iff_ne.2 (by omega)
  clear h2
  have HW := Aside0.mk (PW.enter w t x T2 e2 T3 e3 T4 e4 A2 c2 A3 c3 A4 c4)
  go_enter Tryd.func33, Tryd.ntmps33
  go_upto_region 1 with fail
  generalize (((w.alloc (bx t T2 e2 T3 e3 T4 e4)).alloc (bx x A2 c2 A3 c3 A4 c4)).alloc (.cells #[.int .i64 0, .bool false, .slice none 0 0, .slice none 0 0, .slice none 0 0] 26)) = w3 at *
  obtain ⟨a, ha⟩ : ∃ q, w.heap.size = q := ⟨_, rfl⟩
  rw [ha] at HW ⊢
  clear ha
  obtain ⟨b, hb⟩ : ∃ q, a + 1 = q := ⟨_, rfl⟩
  rw [hb] at HW ⊢
  clear hb
  obtain ⟨c, hc⟩ : ∃ q, b + 1 = q := ⟨_, rfl⟩
  rw [hc] at HW ⊢
  clear hc
  obtain ⟨x0, x1, x2, x3, x4⟩ := cells5 HW.out.ba
  obtain ⟨b0, b1, b2, b3, b4⟩ := cells5 HW.out.bc
  have f0 := blk_frozen HW.out.bc 0
  have f1 := blk_frozen HW.out.bc 1
  have f2 := blk_frozen HW.out.bc 2
  have f3 := blk_frozen HW.out.bc 3
  have f4 := blk_frozen HW.out.bc 4
  have HF := Aside0.mk (HW.out.setc (.int .i64 0) (.bool false) (.slice none 0 0) (.slice none 0 0) (.slice none 0 0))
  go_wp2_with fail
  refine bodyPost_ret (results_c1 rfl _ _ c 26 _ (0, 0) _ rfl HF.out.bc Tryd.underlying26 rfl (by kernel_rfl)) rfl ?_
  exact PutP.zero HP.out HF.out.bel
end Go.Proofs.YtfnofjcdaghniaaDoor.Tree
/- tree: put, what its walk keeps. Own work. -/
namespace Go.Proofs.YtfnofjcdaghniaaDoor.Tree
set_option linter.unusedVariables false
set_option linter.unusedSimpArgs false
open Go.RowKit Go.Proofs.YtfnofjcdaghniaaDoor.PL Go.Proofs.YtfnofjcdaghniaaDoor.Mt Go.Proofs.YtfnofjcdaghniaaDoorW.PrintWords Go.Proofs.YtfnofjcdaghniaaDoorW.PrintLast Go.Proofs.YtfnofjcdaghniaaDoorW.PrintMore
theorem below_mono {n m : Nat} {w w1 : World} (h : Below n w w1) (hm : m ≤ n) : Below m w w1 := ⟨h.os, h.tape, h.output, h.size, fun k hk => h.block k (by omega)⟩
theorem below_thenM {n m : Nat} {w w1 w2 : World} (h : Below n w w1) (hm : n ≤ m) (k : Below m w1 w2) : Below n w w2 := ⟨k.os.trans h.os, k.tape.trans h.tape, k.output.trans h.output, Nat.le_trans h.size k.size, fun i hi => (k.block i (by omega)).trans (h.block i hi)⟩
/-- a tree's cells -/
abbrev TC (a0 b0 c0 d0 e0 : Value) : Array Value := #[a0, b0, c0, d0, e0]
structure QW (w wr : World) (n0 nz n7 a b c d : Nat) (oa ob oc : Array Value) (r : S26) (cs : List Value) (v3 v4 : Value) (ns : List ByteArray) (css : List (List Value)) : Prop where
  pw : PW w wr a b c oa ob oc
  bd : wr.heap[d]? = some (.cells cs.toArray 26 (0, 0))
  ne : d ≠ a ∧ d ≠ b ∧ d ≠ c
  hi : a < nz ∧ b < nz ∧ c < nz ∧ d < nz
  lo : n0 ≤ w.heap.size ∧ w.heap.size ≤ d ∧ nz ≤ n7
  sz : n7 ≤ wr.heap.size
  kg : KG (fun k => k < n0 ∨ (nz ≤ k ∧ k < n7)) wr r cs
  rn : Kd.string.R 9 wr n7 (fun _ => True) v3 ns
  rk : kraw.R 26 wr n7 (fun _ => True) v4 css
section
variable {w wr w2 : World} {n0 nz n7 a b c d : Nat} {oa ob oc : Array Value} {r : S26} {cs : List Value} {v3 v4 u3 u4 : Value} {ns ms : List ByteArray} {css cst : List (List Value)}
theorem QW.go (h : QW w wr n0 nz n7 a b c d oa ob oc r cs v3 v4 ns css) (hb : Below n7 wr w2) (h3 : Kd.string.R 9 w2 n7 (fun _ => True) u3 ms) (h4 : kraw.R 26 w2 n7 (fun _ => True) u4 cst) : QW w w2 n0 nz n7 a b c d oa ob oc r cs u3 u4 ms cst := by
  obtain ⟨i1, i2, i3, i4⟩ := h.hi
  obtain ⟨l1, l2, l3⟩ := h.lo
  exact { pw := ⟨(hb.block _ (by omega)).trans h.pw.ba, (hb.block _ (by omega)).trans h.pw.bb, (hb.block _ (by omega)).trans h.pw.bc, h.pw.ne, h.pw.lo, below_thenM h.pw.bel (by omega) hb⟩
          bd := (hb.block _ (by omega)).trans h.bd
          ne := h.ne, hi := h.hi, lo := h.lo
          sz := Nat.le_trans h.sz hb.size
          kg := h.kg.move (Fr.below hb (fun k hk => by omega))
          rn := h3, rk := h4 }
theorem QW.below (h : QW w wr n0 nz n7 a b c d oa ob oc r cs v3 v4 ns css) (hb : Below wr.heap.size wr w2) : QW w w2 n0 nz n7 a b c d oa ob oc r cs v3 v4 ns css :=
  h.go (below_mono hb h.sz) (Kd.R_below h.rn hb) (Kd.R_below h.rk hb)
theorem QW.n (h : QW w wr n0 nz n7 a b c d oa ob oc r cs v3 v4 ns css) (hr : Kd.string.R 9 w2 wr.heap.size (fun _ => True) u3 ms) (hb : Below wr.heap.size wr w2) : QW w w2 n0 nz n7 a b c d oa ob oc r cs u3 v4 ms css :=
  h.go (below_mono hb h.sz) (Kd.R_lower hr h.sz) (Kd.R_below h.rk hb)
theorem QW.k (h : QW w wr n0 nz n7 a b c d oa ob oc r cs v3 v4 ns css) (hr : kraw.R 26 w2 wr.heap.size (fun _ => True) u4 cst) (hb : Below wr.heap.size wr w2) : QW w w2 n0 nz n7 a b c d oa ob oc r cs v3 u4 ns cst :=
  h.go (below_mono hb h.sz) (Kd.R_below h.rn hb) (Kd.R_lower hr h.sz)
theorem QW.ins3 (h : QW w wr n0 nz n7 a b c d oa ob oc r cs v3 v4 ns css) (hr : Kd.string.R 9 w2 n7 (fun _ => True) u3 ms) (hb : Below n7 wr w2) (hg : wr.grownBy w2 v3.ownBlock) : QW w w2 n0 nz n7 a b c d oa ob oc r cs u3 v4 ms css :=
  h.go hb hr (Kd.R_over h.rk h.rn (by intro q hq; simp [kraw] at hq; omega) hg)
theorem QW.ins4 (h : QW w wr n0 nz n7 a b c d oa ob oc r cs v3 v4 ns css) (hr : kraw.R 26 w2 n7 (fun _ => True) u4 cst) (hb : Below n7 wr w2) (hg : wr.grownBy w2 v4.ownBlock) : QW w w2 n0 nz n7 a b c d oa ob oc r cs v3 u4 ns cst :=
  h.go hb (Kd.R_over h.rn h.rk (by decide) hg) hr
theorem QW.set34 {a0 b0 c0 d0 e0 : Value} (h : QW w wr n0 nz n7 a b c d #[a0, b0, c0, d0, e0] ob oc r cs v3 v4 ns css) (x3 x4 : Value) : QW w ((wr.setCell ⟨a, 3, none⟩ x3).setCell ⟨a, 4, none⟩ x4) n0 nz n7 a b c d #[a0, b0, c0, x3, x4] ob oc r cs v3 v4 ns css := by
  obtain ⟨i1, i2, i3, i4⟩ := h.hi
  obtain ⟨l1, l2, l3⟩ := h.lo
  obtain ⟨e1, e2, e3⟩ := h.pw.ne
  obtain ⟨d1, d2, d3⟩ := h.ne
  have far : ∀ k, k ≠ a → ((wr.setCell ⟨a, 3, none⟩ x3).setCell ⟨a, 4, none⟩ x4).heap[k]? = wr.heap[k]? := fun k hk => by
    rw [Below.heap_setCell _ ⟨a, 4, none⟩ x4 k hk, Below.heap_setCell _ ⟨a, 3, none⟩ x3 k hk]
  have ff : ∀ D : Nat → Prop, (∀ k, D k → k ≠ a) → Fr D wr ((wr.setCell ⟨a, 3, none⟩ x3).setCell ⟨a, 4, none⟩ x4) := fun D hd => (Fr.set _ _ _ hd).trans (Fr.set _ _ _ hd)
  exact { pw := ⟨by simpa using blk_set (blk_set h.pw.ba 3 x3) 4 x4, (far _ e1.symm).trans h.pw.bb, (far _ e2.symm).trans h.pw.bc, h.pw.ne, h.pw.lo, below_set (below_set h.pw.bel h.pw.lo.1) h.pw.lo.1⟩
          bd := (far _ d1).trans h.bd
          ne := h.ne, hi := h.hi, lo := h.lo
          sz := Nat.le_trans h.sz (ff (fun _ => False) (fun _ h => h.elim)).size
          kg := h.kg.move (ff _ (fun k hk => by have := h.pw.lo; omega))
          rn := Kd.R_mono (Kd.R_step (Kd.R_bound h.rn) (fun k hk _ => far k (by have := hk.2.1; omega))) (fun _ _ => trivial)
          rk := Kd.R_mono (Kd.R_step (Kd.R_bound h.rk) (fun k hk _ => far k (by have := hk.2.1; omega))) (fun _ _ => trivial) }
/-- the end: the result stands in box a, and goes to box c -/
theorem QW.fin {w0 : World} {k : Int} {f1 : Bool} {f2 : List Int} {A2 : Option Addr} {c2 : Nat} {A3 : Option Addr} {c3 : Nat} {A4 : Option Addr} {c4 : Nat} {ks : List S26} {R : S26 × Int} {y0 y1 y2 y3 y4 : Value}
    (h : QW w wr w0.heap.size nz n7 a b c d oa ob #[y0, y1, y2, y3, y4] r cs (.slice A3 ns.length c3) (.slice A4 css.length c4) ns css) (hB : Below w0.heap.size w0 w) (h2 : (Kd.int .u8).C w0 A2 f2.length f2) (h2l : f2.length ≤ c2)
    (hl : ks.length = css.length) (hk : ∀ (j : Nat) (x : S26) (c : List Value), ks[j]? = some x → css[j]? = some c → k26.K w0 x c ∨ (x = r ∧ c = cs)) (hR : R = (⟨k, f1, f2, ns, ks⟩, 0)) :
    PutP w0 w R (.returned (.tuple #[.agg #[.int .i64 k, .bool f1, .slice A2 f2.length c2, .slice A3 ns.length c3, .slice A4 css.length c4], .int .i64 0]))
      (((((wr.setCell ⟨c, 0, none⟩ (.int .i64 k)).setCell ⟨c, 1, none⟩ (.bool f1)).setCell ⟨c, 2, none⟩ (.slice A2 f2.length c2)).setCell ⟨c, 3, none⟩ (.slice A3 ns.length c3)).setCell ⟨c, 4, none⟩ (.slice A4 css.length c4)) := by
  obtain ⟨i1, i2, i3, i4⟩ := h.hi
  obtain ⟨l1, l2, l3⟩ := h.lo
  have lo := h.pw.lo
  have far := fun k hk => box_far (wr := wr) (p := c) (k := k) hk (.int .i64 k) (.bool f1) (.slice A2 f2.length c2) (.slice A3 ns.length c3) (.slice A4 css.length c4)
  subst hR
  rw [← hl]
  have hbel : Below w.heap.size w (((((wr.setCell ⟨c, 0, none⟩ (.int .i64 k)).setCell ⟨c, 1, none⟩ (.bool f1)).setCell ⟨c, 2, none⟩ (.slice A2 f2.length c2)).setCell ⟨c, 3, none⟩ (.slice A3 ns.length c3)).setCell ⟨c, 4, none⟩ (.slice A4 ks.length c4)) := box_below h.pw.bel lo.2.2 _ _ _ _ _
  refine PutP.of (x := ⟨k, f1, f2, ns, ks⟩) rfl ?_ hbel
  obtain ⟨wc, hwc⟩ : ∃ q, (((((wr.setCell ⟨c, 0, none⟩ (.int .i64 k)).setCell ⟨c, 1, none⟩ (.bool f1)).setCell ⟨c, 2, none⟩ (.slice A2 f2.length c2)).setCell ⟨c, 3, none⟩ (.slice A3 ns.length c3)).setCell ⟨c, 4, none⟩ (.slice A4 ks.length c4)) = q := ⟨_, rfl⟩
  have hfr : ∀ D : Nat → Prop, (∀ k, D k → k ≠ c) → Fr D wr wc := fun D hd => hwc ▸ Fr.box wr c _ _ _ _ _ hd
  rw [hwc] at hbel ⊢
  have hsz : wr.heap.size ≤ wc.heap.size := (hfr (fun _ => False) (fun _ h => h.elim)).size
  have hkg : KG (fun k => k < w0.heap.size ∨ (w.heap.size ≤ k ∧ k < wc.heap.size)) wc r cs := (h.kg.move (hfr _ (fun k hk => by omega))).mono (fun k hk => by have := h.sz; omega)
  have r3 : Kd.string.R 9 wc n7 (fun k => n7 ≤ k ∧ k < wc.heap.size) (.slice A3 ns.length c3) ns := Kd.R_mono (Kd.R_step (Kd.R_bound h.rn) (fun k hk _ => (hfr (fun k => k ≠ c) (fun _ h => h)).block k (by have := hk.2.1; omega))) (fun k hk => ⟨hk.2.1, by have := hk.2.2.1; omega⟩)
  have r4 : kraw.R 26 wc n7 (fun k => n7 ≤ k ∧ k < wc.heap.size) (.slice A4 css.length c4) css := Kd.R_mono (Kd.R_step (Kd.R_bound h.rk) (fun k hk _ => (hfr (fun k => k ≠ c) (fun _ h => h)).block k (by have := hk.2.1; omega))) (fun k hk => ⟨hk.2.1, by have := hk.2.2.1; omega⟩)
  intro w2 hw
  have hB2 : Below w0.heap.size w0 w2 := ⟨hw.os.trans (hbel.os.trans hB.os), hw.tape.trans (hbel.tape.trans hB.tape), hw.output.trans (hbel.output.trans hB.output), Nat.le_trans hB.size (Nat.le_trans hbel.size hw.size), fun k hk => (hw.block k (.inl hk)).trans ((hbel.block k (by omega)).trans (hB.block k hk))⟩
  obtain ⟨_, q3, s3⟩ := Kd.R_reads' (Kd.R_step r3 (w1 := w2) (fun k hk _ => hw.block k (.inr ⟨by omega, hk.2⟩)))
  obtain ⟨_, q4, s4⟩ := Kd.R_reads' (Kd.R_step r4 (w1 := w2) (fun k hk _ => hw.block k (.inr ⟨by omega, hk.2⟩)))
  rw [cs5]
  refine k26_mk w2 ⟨k, f1, f2, ns, ks⟩ h2l (Kd.C_below h2 hB2) q3 s3 (by show ks.length ≤ c4; omega) (kids_C s4 hl (fun j x c hx hc => ?_))
  rcases hk j x c hx hc with h9 | ⟨rfl, rfl⟩
  · exact k26.K_below hB2 h9
  · exact hkg w2 hw
end
theorem kids_set {P : S26 → List Value → Prop} {ks : List S26} {css : List (List Value)} {r : S26} {cs : List Value} (i : Nat) (hk : ∀ (j : Nat) (x : S26) (c : List Value), ks[j]? = some x → css[j]? = some c → P x c) (hr : P r cs) :
    ∀ (j : Nat) (x : S26) (c : List Value), (ks.set i r)[j]? = some x → (css.set i cs)[j]? = some c → P x c := by
  intro j x c hx hc
  rw [List.getElem?_set] at hx hc
  by_cases hij : i = j
  · rw [if_pos hij] at hx hc
    split at hx
    · split at hc
      · cases hx; cases hc; exact hr
      · cases hc
    · cases hx
  · rw [if_neg hij] at hx hc
    exact hk j x c hx hc
theorem kids_ins {P : S26 → List Value → Prop} {ks : List S26} {css : List (List Value)} {r : S26} {cs : List Value} (i : Nat) (hi : i ≤ ks.length) (hl : css.length = ks.length) (hk : ∀ (j : Nat) (x : S26) (c : List Value), ks[j]? = some x → css[j]? = some c → P x c) (hr : P r cs) :
    ∀ (j : Nat) (x : S26) (c : List Value), (ks.take i ++ r :: ks.drop i)[j]? = some x → (css.take i ++ cs :: css.drop i)[j]? = some c → P x c := by
  intro j x c hx hc
  have e1 : (ks.take i).length = i := by rw [List.length_take]; omega
  have e2 : (css.take i).length = i := by rw [List.length_take]; omega
  rw [List.getElem?_append, e1] at hx
  rw [List.getElem?_append, e2] at hc
  by_cases hj : j < i
  · rw [if_pos hj, List.getElem?_take, if_pos hj] at hx hc
    exact hk j x c hx hc
  · rw [if_neg hj] at hx hc
    obtain ⟨m, rfl⟩ : ∃ m, j = i + m := ⟨j - i, by omega⟩
    rw [Nat.add_sub_cancel_left] at hx hc
    cases m with
    | zero => simp at hx hc; subst hx; subst hc; exact hr
    | succ m =>
      simp only [List.getElem?_cons_succ, List.getElem?_drop] at hx hc
      exact hk _ x c hx hc
theorem QW.fin' {w wr w0 : World} {nz n7 a b c d : Nat} {oa ob : Array Value} {r : S26} {cs : List Value} {ns : List ByteArray} {css : List (List Value)} {k : Int} {f1 : Bool} {f2 : List Int} {A2 : Option Addr} {c2 m3 m4 : Nat} {A3 : Option Addr} {c3 : Nat} {A4 : Option Addr} {c4 : Nat} {ks : List S26} {R : S26 × Int} {y0 y1 y2 y3 y4 : Value}
    (h : QW w wr w0.heap.size nz n7 a b c d oa ob #[y0, y1, y2, y3, y4] r cs (.slice A3 m3 c3) (.slice A4 m4 c4) ns css) (e3 : m3 = ns.length) (e4 : m4 = css.length) (hB : Below w0.heap.size w0 w) (h2 : (Kd.int .u8).C w0 A2 f2.length f2) (h2l : f2.length ≤ c2)
    (hl : ks.length = css.length) (hk : ∀ (j : Nat) (x : S26) (c : List Value), ks[j]? = some x → css[j]? = some c → k26.K w0 x c ∨ (x = r ∧ c = cs)) (hR : R = (⟨k, f1, f2, ns, ks⟩, 0)) :
    PutP w0 w R (.returned (.tuple #[.agg #[.int .i64 k, .bool f1, .slice A2 f2.length c2, .slice A3 m3 c3, .slice A4 m4 c4], .int .i64 0]))
      (((((wr.setCell ⟨c, 0, none⟩ (.int .i64 k)).setCell ⟨c, 1, none⟩ (.bool f1)).setCell ⟨c, 2, none⟩ (.slice A2 f2.length c2)).setCell ⟨c, 3, none⟩ (.slice A3 m3 c3)).setCell ⟨c, 4, none⟩ (.slice A4 m4 c4)) := by
  subst e3
  subst e4
  exact h.fin hB h2 h2l hl hk hR
theorem raw_M {w : World} {base : Nat} {ok : Nat → Prop} {x cc : List Value} (hc : cc.length = 5) (hx : x.length = 5) (h1 : ∀ u ∈ x, u.oneCell' = true) : kraw.M w base ok x (cc.take 0 ++ x ++ cc.drop (0 + x.length)) :=
  ⟨by rw [hx, List.drop_eq_nil_of_le (by omega)]; simp, hx, h1⟩
theorem cell_ex {W : World} {g j : Nat} {cs : Array Value} (h : W.heap[g]? = some (.cells cs 26 (0, 0))) (hj : j < cs.size) : ∃ c, W.cell? ⟨g, j, none⟩ = some c ∧ W.frozen? ⟨g, j, none⟩ = false := ⟨cs[j], by rw [blk_cell h, Array.getElem?_eq_getElem hj], blk_frozen h j⟩
theorem raw_facts {w : World} {base g n c i : Nat} {css : List (List Value)} (h : kraw.R 26 w base (fun _ => True) (.slice (some ⟨g, 0, none⟩) n c) css) (hi : i < n) (x0 x1 x2 x3 x4 : Value) :
    (∃ c0, w.cell? ⟨g, i * 5, none⟩ = some c0 ∧ w.frozen? ⟨g, i * 5, none⟩ = false) ∧ (∃ c1, (w.setCell ⟨g, i * 5, none⟩ x0).cell? ⟨g, i * 5 + 1, none⟩ = some c1 ∧ (w.setCell ⟨g, i * 5, none⟩ x0).frozen? ⟨g, i * 5 + 1, none⟩ = false) ∧ (∃ c2, ((w.setCell ⟨g, i * 5, none⟩ x0).setCell ⟨g, i * 5 + 1, none⟩ x1).cell? ⟨g, i * 5 + 2, none⟩ = some c2 ∧ ((w.setCell ⟨g, i * 5, none⟩ x0).setCell ⟨g, i * 5 + 1, none⟩ x1).frozen? ⟨g, i * 5 + 2, none⟩ = false) ∧ (∃ c3, (((w.setCell ⟨g, i * 5, none⟩ x0).setCell ⟨g, i * 5 + 1, none⟩ x1).setCell ⟨g, i * 5 + 2, none⟩ x2).cell? ⟨g, i * 5 + 3, none⟩ = some c3 ∧ (((w.setCell ⟨g, i * 5, none⟩ x0).setCell ⟨g, i * 5 + 1, none⟩ x1).setCell ⟨g, i * 5 + 2, none⟩ x2).frozen? ⟨g, i * 5 + 3, none⟩ = false) ∧ (∃ c4, ((((w.setCell ⟨g, i * 5, none⟩ x0).setCell ⟨g, i * 5 + 1, none⟩ x1).setCell ⟨g, i * 5 + 2, none⟩ x2).setCell ⟨g, i * 5 + 3, none⟩ x3).cell? ⟨g, i * 5 + 4, none⟩ = some c4 ∧ ((((w.setCell ⟨g, i * 5, none⟩ x0).setCell ⟨g, i * 5 + 1, none⟩ x1).setCell ⟨g, i * 5 + 2, none⟩ x2).setCell ⟨g, i * 5 + 3, none⟩ x3).frozen? ⟨g, i * 5 + 4, none⟩ = false) := by
  obtain ⟨hn, hnc, -⟩ := Kd.R_reads' h
  obtain ⟨_, inner, hown, hr⟩ := h
  rcases hown.2 with ⟨hv, _⟩ | ⟨g', cap', cur, hv, hb, hh, hnc, hcm, hcs, _⟩
  · cases hv
  injection hv with ha hb' hc'
  injection ha with ha
  injection ha with ha
  subst ha
  subst hc'
  have hsz : cur.size = c * 5 := hcs
  have hlt : i * 5 + 4 < cur.size := by rw [hsz]; omega
  have b1 := blk_set hh (i * 5) x0
  have b2 := blk_set b1 (i * 5 + 1) x1
  have b3 := blk_set b2 (i * 5 + 2) x2
  have b4 := blk_set b3 (i * 5 + 3) x3
  exact ⟨cell_ex hh (by omega), cell_ex b1 (by simp; omega), cell_ex b2 (by simp; omega), cell_ex b3 (by simp; omega), cell_ex b4 (by simp; omega)⟩
theorem raw_put {w : World} {base g n c i : Nat} {css : List (List Value)} (h : kraw.R 26 w base (fun _ => True) (.slice (some ⟨g, 0, none⟩) n c) css) (hi : i < n) {x0 x1 x2 x3 x4 : Value} (h1 : ∀ u ∈ [x0, x1, x2, x3, x4], u.oneCell' = true) :
    kraw.R 26 (((((w.setCell ⟨g, i * 5, none⟩ x0).setCell ⟨g, i * 5 + 1, none⟩ x1).setCell ⟨g, i * 5 + 2, none⟩ x2).setCell ⟨g, i * 5 + 3, none⟩ x3).setCell ⟨g, i * 5 + 4, none⟩ x4) base (fun _ => True) (.slice (some ⟨g, 0, none⟩) n c) (css.set i [x0, x1, x2, x3, x4]) ∧ Below base w (((((w.setCell ⟨g, i * 5, none⟩ x0).setCell ⟨g, i * 5 + 1, none⟩ x1).setCell ⟨g, i * 5 + 2, none⟩ x2).setCell ⟨g, i * 5 + 3, none⟩ x3).setCell ⟨g, i * 5 + 4, none⟩ x4) ∧ w.grownBy (((((w.setCell ⟨g, i * 5, none⟩ x0).setCell ⟨g, i * 5 + 1, none⟩ x1).setCell ⟨g, i * 5 + 2, none⟩ x2).setCell ⟨g, i * 5 + 3, none⟩ x3).setCell ⟨g, i * 5 + 4, none⟩ x4) (Value.slice (some ⟨g, 0, none⟩) n c).ownBlock := by
  obtain ⟨cc, hcc1, -, hcc2, -⟩ := Kd.R_elem h [] (i : Int) (by omega) (by omega)
  obtain ⟨hr, hg⟩ := Kd.R_seg (okp := fun _ => False) (seg := [x0, x1, x2, x3, x4]) (j := 0) (x' := [x0, x1, x2, x3, x4]) h (i : Int) (by omega) (by omega) hcc1 hcc2 (Nat.le_refl 5) (raw_M hcc1 rfl h1) (fun _ h => h.elim)
  have hb : base ≤ g := Kd.R_base h g (by simp [Value.ownBlock])
  refine ⟨hr, ?_, hg⟩
  have hl : g < w.heap.size := Kd.R_lt h g (by simp [Value.ownBlock])
  exact ⟨hg.os, hg.tape, hg.output, hg.size, fun k hk => hg.block k (by omega) (fun he => by injection he with he; omega)⟩
theorem putS_err_t {n : ByteArray} {l : List ByteArray} {t x u r : S26} {k : Int} (h2 : t.f0 = 2) (hh : hasS t.f3 n = true) (hu : t.f4.getD (posS t.f3 n) dir0 = u) (hr : putS l u x = (r, k)) (hk : k ≠ 0) : putS (n :: l) t x = (z0, k) := by
  rw [putS, if_neg (by simp [h2]), if_pos hh, hu]; simp [hr, hk]
theorem putS_ok_t {n : ByteArray} {l : List ByteArray} {t x u r : S26} (h2 : t.f0 = 2) (hh : hasS t.f3 n = true) (hu : t.f4.getD (posS t.f3 n) dir0 = u) (hr : putS l u x = (r, 0)) : putS (n :: l) t x = (⟨t.f0, t.f1, t.f2, t.f3, t.f4.set (posS t.f3 n) r⟩, 0) := by
  rw [putS, if_neg (by simp [h2]), if_pos hh, hu]; simp [hr]
theorem putS_err_f {n : ByteArray} {l : List ByteArray} {t x r : S26} {k : Int} (h2 : t.f0 = 2) (hh : hasS t.f3 n = false) (hr : putS l dir0 x = (r, k)) (hk : k ≠ 0) : putS (n :: l) t x = (z0, k) := by
  simp [putS, h2, hh, hr, hk]
theorem putS_ok_f {n : ByteArray} {l : List ByteArray} {t x r : S26} (h2 : t.f0 = 2) (hh : hasS t.f3 n = false) (hr : putS l dir0 x = (r, 0)) : putS (n :: l) t x = (⟨t.f0, t.f1, t.f2, t.f3.take (posS t.f3 n) ++ n :: t.f3.drop (posS t.f3 n), t.f4.take (posS t.f3 n) ++ r :: t.f4.drop (posS t.f3 n)⟩, 0) := by
  simp [putS, h2, hh, hr]
end Go.Proofs.YtfnofjcdaghniaaDoor.Tree
