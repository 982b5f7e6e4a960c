/- nar's reference: what node's walk keeps. Own work. -/
import Derived.Test.YthhajkmeadapgaaRfB
namespace Go.Proofs.Ythhajkmeadapgaa.Tree
set_option linter.unusedVariables false
set_option linter.unusedSimpArgs false
open Go.RowKit Go.Proofs.Ythhajkmeadapgaa.PL Go.Proofs.Ythhajkmeadapgaa.Mn Go.Proofs.YthhajkmeadapgaaW.PrintWords Go.Proofs.YthhajkmeadapgaaW.PrintLast Go.Proofs.YthhajkmeadapgaaW.PrintMore
/-- a tree that is read wherever the blocks of D are as they are here -/
def KF (D : Nat → Prop) (w : World) (x : S26) (cs : List Value) : Prop := ∀ w' : World, (∀ k, D k → w'.heap[k]? = w.heap[k]?) → k26.K w' x cs
theorem KF.move {D : Nat → Prop} {w w1 : World} {x : S26} {cs : List Value} (h : KF D w x cs) (hm : ∀ k, D k → w1.heap[k]? = w.heap[k]?) : KF D w1 x cs := fun w' h' => h w' (fun k hk => (h' k hk).trans (hm k hk))
theorem KF.mono {D D' : Nat → Prop} {w : World} {x : S26} {cs : List Value} (h : KF D w x cs) (hd : ∀ k, D k → D' k) : KF D' w x cs := fun w' h' => h w' (fun k hk => h' k (hd k hk))
/-- cells of five as they lie -/
def kraw : Kd (List Value) where
  sz := 5
  E := []
  K := fun _ x cs => cs = x ∧ x.length = 5 ∧ ∀ u ∈ x, u.oneCell' = true
  M := fun _ _ _ x cs => cs = x ∧ x.length = 5 ∧ ∀ u ∈ x, u.oneCell' = true
  K_len := fun h => by rw [h.1]; exact h.2.1
  K_one := fun h => by rw [h.1]; exact h.2.2
  K_below := fun _ h => h
  K_of_M := fun h => h
  M_mono := fun _ h => h
  M_bound := fun h => h
  M_move := fun _ h => h
  M_lower := fun _ h => h
theorem kids_C {w : World} {A : Option Addr} {ks : List S26} {css : List (List Value)} (h : kraw.C w A css.length css) (hl : ks.length = css.length) (hk : ∀ (j : Nat) (x : S26) (c : List Value), ks[j]? = some x → css[j]? = some c → k26.K w x c) : k26.C w A ks.length ks := by
  obtain ⟨h1, h2, h3⟩ := h
  refine ⟨rfl, by omega, fun h0 => ?_⟩
  obtain ⟨ad, e, hc⟩ := h3 (by omega)
  refine ⟨ad, e, fun j p hp => ?_⟩
  have hj : j < css.length := by have := (List.getElem?_eq_some_iff.1 hp).1; omega
  obtain ⟨c, g1, g2, g3⟩ := hc j css[j] (List.getElem?_eq_getElem hj)
  have e1 : c = css[j] := g2.1
  subst e1
  exact ⟨_, g1, hk j p _ hp (List.getElem?_eq_getElem hj), g3⟩
/-- what node's walk keeps: the reader, a box of its own -/
structure BR (w0 w wr : World) (g p : Nat) (s : RS) (n : Nat) (cs : Array Value) : Prop where
  rd : RR w0 wr g s n
  bx : wr.heap[p]? = some (.cells cs 26 (0, 0))
  kp : KeepBut w wr g none
  np : p ≠ g
  lp : w.heap.size ≤ p
  lg : g < w.heap.size
theorem BR.keep {w0 w wr w2 : World} {g p : Nat} {s s2 : RS} {n n2 : Nat} {cs : Array Value} (h : BR w0 w wr g p s n cs) (hr : RR w0 w2 g s2 n2) (hk : KeepBut wr w2 g none) : BR w0 w w2 g p s2 n2 cs :=
  ⟨hr, hk.blk h.bx h.np (by simp), h.kp.trans hk (.inl rfl), h.np, h.lp, h.lg⟩
theorem BR.below {w0 w wr w2 : World} {g p : Nat} {s : RS} {n : Nat} {cs : Array Value} (h : BR w0 w wr g p s n cs) (hb : Below wr.heap.size wr w2) : BR w0 w w2 g p s n cs :=
  h.keep (h.rd.keep hb) (KeepBut.of_below hb g none)
theorem RR.far {w0 w : World} {g p : Nat} {s : RS} {n : Nat} (h : RR w0 w g s n) (hp : p ≠ g) (h0 : w0.heap.size ≤ p) (j : Nat) (v : Value) : RR w0 (w.setCell ⟨p, j, none⟩ v) g s n := by
  obtain ⟨A, c, h1, h2, h3⟩ := h.blk
  exact ⟨⟨A, c, blk_far h1 (p := ⟨p, j, none⟩) (fun e => hp e.symm) v, h2, h3⟩, below_set h.b h0, h.lo, h.b8⟩
theorem BR.set {w0 w wr : World} {g p : Nat} {s : RS} {n : Nat} {cs : Array Value} (h : BR w0 w wr g p s n cs) (j : Nat) (v : Value) : BR w0 w (wr.setCell ⟨p, j, none⟩ v) g p s n (cs.setIfInBounds j v) where
  rd := h.rd.far h.np (by have := h.rd.b.size; have := h.rd.lo; have := h.lp; have := h.lg; omega) j v
  bx := by simpa using blk_set h.bx j v
  kp := ⟨by simpa [World.setCell] using h.kp.1, fun i hi hg hr => (Below.heap_setCell wr ⟨p, j, none⟩ v i (by have := h.lp; show i ≠ p; omega)).trans (h.kp.2 i hi hg hr)⟩
  np := h.np
  lp := h.lp
  lg := h.lg
theorem BR.same {w0 w wr : World} {g p : Nat} {s : RS} {n : Nat} {a0 b0 c0 d0 e0 : Value} (h : BR w0 w wr g p s n #[a0, b0, c0, d0, e0]) (a b c d e : Value) : BR w0 w (((((wr.setCell ⟨p, 0, none⟩ a).setCell ⟨p, 1, none⟩ b).setCell ⟨p, 2, none⟩ c).setCell ⟨p, 3, none⟩ d).setCell ⟨p, 4, none⟩ e) g p s n #[a, b, c, d, e] := by
  have := ((((h.set 0 a).set 1 b).set 2 c).set 3 d).set 4 e
  simpa using this
theorem RR.grown {w0 W w1 : World} {g : Nat} {s : RS} {n : Nat} {row : Option Nat} (h : RR w0 W g s n) (hg : W.grownBy w1 row) (hr : ∀ k, row = some k → w0.heap.size ≤ k ∧ k ≠ g) : RR w0 w1 g s n := by
  obtain ⟨A, c, h1, h2, h3⟩ := h.blk
  exact ⟨⟨A, c, (hg.block _ (blk_lt h1) (fun he => (hr g he.symm).2 rfl)).trans h1, h2, h3⟩, h.b.grown hg h.b.size (fun k hk => (hr k hk).1), h.lo, h.b8⟩
/-- a kid whose blocks lie between lo and hi, away from the rows that grow -/
structure PK (w wr : World) (v3 v4 : Value) (lo hi : Nat) (x : S26) (c : List Value) : Prop where
  ha : w.heap.size ≤ lo
  hb : lo ≤ hi
  hc : hi ≤ wr.heap.size
  f : KF (fun k => lo ≤ k ∧ k < hi) wr x c
  o3 : ∀ k, v3.ownBlock = some k → k < lo ∨ hi ≤ k
  o4 : ∀ k, v4.ownBlock = some k → k < lo ∨ hi ≤ k
/-- what the entries' loop keeps -/
structure ER (w0 w wr : World) (g p : Nat) (s : RS) (n : Nat) (ns : List ByteArray) (ks : List S26) (css : List (List Value)) (v3 v4 : Value) : Prop where
  rd : RR w0 wr g s n
  bx : wr.heap[p]? = some (.cells #[.int .i64 2, .bool false, .slice none 0 0, v3, v4] 26 (0, 0))
  rn : Kd.string.R 9 wr w.heap.size (fun _ => True) v3 ns
  rk : kraw.R 26 wr w.heap.size (fun k => some k ≠ v3.ownBlock) v4 css
  len : ks.length = css.length
  kids : ∀ (j : Nat) (x : S26) (c : List Value), ks[j]? = some x → css[j]? = some c → ∃ lo hi, PK w wr v3 v4 lo hi x c
  kp : Kept w wr (fun k => k = g ∨ k = p)
  pg : p ≠ g
  gw : g < w.heap.size
  pw : p < w.heap.size
theorem PK.keep {w wr w2 : World} {v3 v4 : Value} {lo hi g : Nat} {x : S26} {c : List Value} (h : PK w wr v3 v4 lo hi x c) (hk : KeepBut wr w2 g none) (hg : g < w.heap.size) : PK w w2 v3 v4 lo hi x c :=
  ⟨h.ha, h.hb, Nat.le_trans h.hc hk.1, h.f.move (fun k hk' => hk.2 k (by have := h.hc; omega) (by have := h.ha; omega) (by simp)), h.o3, h.o4⟩
theorem ER.keep {w0 w wr w2 : World} {g p : Nat} {s s2 : RS} {n n2 : Nat} {ns : List ByteArray} {ks : List S26} {css : List (List Value)} {v3 v4 : Value} (h : ER w0 w wr g p s n ns ks css v3 v4) (hr : RR w0 w2 g s2 n2) (hk : KeepBut wr w2 g none) : ER w0 w w2 g p s2 n2 ns ks css v3 v4 where
  rd := hr
  bx := hk.blk h.bx h.pg (by simp)
  rn := Kd.R_mono (Kd.R_keep (Kd.R_bound h.rn) hk (fun k hk => by have := h.gw; omega)) (fun _ _ => trivial)
  rk := Kd.R_mono (Kd.R_keep (Kd.R_bound h.rk) hk (fun k hk => by have := h.gw; omega)) (fun _ h => h.1)
  len := h.len
  kids := fun j x c hx hc => by
    obtain ⟨lo, hi, hp⟩ := h.kids j x c hx hc
    exact ⟨lo, hi, hp.keep hk h.gw⟩
  kp := h.kp.of_keep hk (.inl (.inl rfl))
  pg := h.pg
  gw := h.gw
  pw := h.pw
theorem ER.below {w0 w wr w2 : World} {g p : Nat} {s : RS} {n : Nat} {ns : List ByteArray} {ks : List S26} {css : List (List Value)} {v3 v4 : Value} (h : ER w0 w wr g p s n ns ks css v3 v4) (hb : Below wr.heap.size wr w2) : ER w0 w w2 g p s n ns ks css v3 v4 :=
  h.keep (h.rd.keep hb) (KeepBut.of_below hb g none)
section
variable {w0 w W w1 : World} {g p : Nat} {s : RS} {n : Nat} {ns : List ByteArray} {ks : List S26} {css : List (List Value)} {v3 v4 v1 : Value}
/-- a kid beside a row that has grown, and a store into the box -/
theorem PK.app3 {lo hi : Nat} {x : S26} {c : List Value} (h : PK w W v3 v4 lo hi x c) (hg : W.grownBy w1 v3.ownBlock) (hat : v1.ownBlock = v3.ownBlock ∨ ∃ b, v1.ownBlock = some b ∧ W.heap.size ≤ b) (hp : p < w.heap.size) (u : Value) : PK w (w1.setCell ⟨p, 3, none⟩ u) v1 v4 lo hi x c := by
  refine ⟨h.ha, h.hb, by have := h.hc; have := hg.size; simp [World.setCell]; omega, h.f.move (fun k hk => (Below.heap_setCell w1 ⟨p, 3, none⟩ u k (by have := h.ha; show k ≠ p; omega)).trans (hg.block k (by have := h.hc; omega) (fun he => by have := h.o3 k he.symm; omega))), fun k hk => ?_, h.o4⟩
  rcases hat with e | ⟨b, e, hb⟩
  · exact h.o3 k (e.symm.trans hk)
  · rw [e] at hk
    injection hk with hk
    have := h.hc
    omega
theorem PK.app4 {lo hi : Nat} {x : S26} {c : List Value} (h : PK w W v3 v4 lo hi x c) (hg : W.grownBy w1 v4.ownBlock) (hat : v1.ownBlock = v4.ownBlock ∨ ∃ b, v1.ownBlock = some b ∧ W.heap.size ≤ b) (hp : p < w.heap.size) (u : Value) : PK w (w1.setCell ⟨p, 4, none⟩ u) v3 v1 lo hi x c := by
  refine ⟨h.ha, h.hb, by have := h.hc; have := hg.size; simp [World.setCell]; omega, h.f.move (fun k hk => (Below.heap_setCell w1 ⟨p, 4, none⟩ u k (by have := h.ha; show k ≠ p; omega)).trans (hg.block k (by have := h.hc; omega) (fun he => by have := h.o4 k he.symm; omega))), h.o3, fun k hk => ?_⟩
  rcases hat with e | ⟨b, e, hb⟩
  · exact h.o4 k (e.symm.trans hk)
  · rw [e] at hk
    injection hk with hk
    have := h.hc
    omega
theorem ER.app3 (h : ER w0 w W g p s n ns ks css v3 v4) (h0 : w0.heap.size ≤ p) (hw0 : w0.heap.size ≤ w.heap.size) {ns2 : List ByteArray} (hr : Kd.string.R 9 w1 w.heap.size (fun _ => True) v1 ns2) (hg : W.grownBy w1 v3.ownBlock) (hat : v1.ownBlock = v3.ownBlock ∨ ∃ b, v1.ownBlock = some b ∧ W.heap.size ≤ b) :
    ER w0 w (w1.setCell ⟨p, 3, none⟩ v1) g p s n ns2 ks css v1 v4 := by
  have o3 := fun k hk => R_own h.rn k hk
  have hbx := (hg.block _ (blk_lt h.bx) (fun he => by have := o3 p he.symm; have := h.pw; omega)).trans h.bx
  have hb1 := blk_set hbx 3 v1
  have far : ∀ k, k ≠ p → (w1.setCell ⟨p, 3, none⟩ v1).heap[k]? = w1.heap[k]? := fun k hk => Below.heap_setCell _ ⟨p, 3, none⟩ v1 k hk
  refine ⟨(h.rd.grown hg (fun k hk => by have := o3 k hk; have := h.gw; omega)).far h.pg h0 3 v1, by simpa using hb1, ?_, ?_, h.len, fun j x c hx hc => ?_, (h.kp.of_grown hg (fun k hk => .inr (o3 k hk).1)).setCell (p := ⟨p, 3, none⟩) (.inl (.inr rfl)) v1, h.pg, h.gw, h.pw⟩
  · exact Kd.R_mono (Kd.R_step (Kd.R_bound hr) (fun k hk _ => far k (by have := h.pw; omega))) (fun _ _ => trivial)
  · have h4 : kraw.R 26 w1 w.heap.size (fun k => some k ≠ v1.ownBlock) v4 css := by
      refine Kd.R_mono (Kd.R_grown (Kd.R_bound h.rk) hg (fun k hk => hk.1)) (fun k hk he => ?_)
      rcases hat with e | ⟨b, e, hb⟩
      · exact hk.1 (he.trans e)
      · rw [e] at he
        injection he with he
        have := hk.2.2.1
        omega
    exact Kd.R_mono (Kd.R_step (Kd.R_bound h4) (fun k hk _ => far k (by have := h.pw; omega))) (fun _ hk => hk.1)
  · obtain ⟨lo, hi, hp⟩ := h.kids j x c hx hc
    exact ⟨lo, hi, hp.app3 hg hat h.pw v1⟩
theorem ER.app4 (h : ER w0 w W g p s n ns ks css v3 v4) (h0 : w0.heap.size ≤ p) (hw0 : w0.heap.size ≤ w.heap.size) {lo hi : Nat} {x : S26} {c : List Value} (hx : PK w W v3 v4 lo hi x c) (hr : kraw.R 26 w1 w.heap.size (fun k => some k ≠ v3.ownBlock) v1 (css ++ [c])) (hg : W.grownBy w1 v4.ownBlock) (hat : v1.ownBlock = v4.ownBlock ∨ ∃ b, v1.ownBlock = some b ∧ W.heap.size ≤ b) :
    ER w0 w (w1.setCell ⟨p, 4, none⟩ v1) g p s n ns (ks ++ [x]) (css ++ [c]) v3 v1 := by
  have o4 := fun k hk => R_own h.rk k hk
  have hbx := (hg.block _ (blk_lt h.bx) (fun he => by have := o4 p he.symm; have := h.pw; omega)).trans h.bx
  have hb1 := blk_set hbx 4 v1
  have far : ∀ k, k ≠ p → (w1.setCell ⟨p, 4, none⟩ v1).heap[k]? = w1.heap[k]? := fun k hk => Below.heap_setCell _ ⟨p, 4, none⟩ v1 k hk
  have hne : v4.ownBlock ≠ v3.ownBlock ∨ v4.ownBlock = none := by
    cases he : v4.ownBlock with
    | none => exact .inr rfl
    | some k => exact .inl (h.rk.1 k he)
  refine ⟨(h.rd.grown hg (fun k hk => by have := o4 k hk; have := h.gw; omega)).far h.pg h0 4 v1, by simpa using hb1, ?_, ?_, by rw [List.length_append, List.length_append, h.len]; rfl, fun j y d hy hd => ?_, (h.kp.of_grown hg (fun k hk => .inr (o4 k hk).1)).setCell (p := ⟨p, 4, none⟩) (.inl (.inr rfl)) v1, h.pg, h.gw, h.pw⟩
  · have h3 : Kd.string.R 9 w1 w.heap.size (fun _ => True) v3 ns := by
      refine Kd.R_mono (Kd.R_grown (Kd.R_tight rfl h.rn) hg (fun k hk he => ?_)) (fun _ _ => trivial)
      rcases hne with hne | hne
      · exact hne (he.symm.trans hk)
      · rw [hne] at he; cases he
    exact Kd.R_mono (Kd.R_step (Kd.R_bound h3) (fun k hk _ => far k (by have := h.pw; omega))) (fun _ _ => trivial)
  · exact Kd.R_mono (Kd.R_step (Kd.R_bound hr) (fun k hk _ => far k (by have := h.pw; omega))) (fun _ hk => hk.1)
  · have hjl : j < ks.length ∨ j = ks.length := by
      have := (List.getElem?_eq_some_iff.1 hy).1
      rw [List.length_append, List.length_singleton] at this
      omega
    rcases hjl with hj | hj
    · rw [List.getElem?_append_left hj] at hy
      rw [List.getElem?_append_left (by rw [← h.len]; exact hj)] at hd
      obtain ⟨lo2, hi2, hp⟩ := h.kids j y d hy hd
      exact ⟨lo2, hi2, hp.app4 hg hat h.pw v1⟩
    · subst hj
      rw [List.getElem?_append_right (Nat.le_refl _), Nat.sub_self] at hy
      rw [List.getElem?_append_right (by rw [h.len]; exact Nat.le_refl _), h.len, Nat.sub_self] at hd
      simp only [List.getElem?_cons_zero, Option.some.injEq] at hy hd
      subst hy hd
      exact ⟨lo, hi, hx.app4 hg hat h.pw v1⟩
end
/-- a directory that is whole -/
theorem ER.tree {w0 w wr : World} {g p : Nat} {s : RS} {n : Nat} {ns : List ByteArray} {ks : List S26} {css : List (List Value)} {v3 v4 : Value} (h : ER w0 w wr g p s n ns ks css v3 v4) :
    KF (fun k => w.heap.size ≤ k ∧ k < wr.heap.size) wr ⟨2, false, [], ns, ks⟩ [.int .i64 2, .bool false, .slice none 0 0, v3, v4] := by
  obtain ⟨A3, c3, rfl⟩ := Kd.R_slice h.rn
  obtain ⟨A4, c4, rfl⟩ := Kd.R_slice h.rk
  intro w' hm
  have h3 := Kd.R_move (Kd.R_bound h.rn) (w1 := w') (fun k hk => hm k ⟨hk.2.1, hk.2.2.1⟩)
  have h4 := Kd.R_move (Kd.R_bound h.rk) (w1 := w') (fun k hk => hm k ⟨hk.2.1, hk.2.2.1⟩)
  obtain ⟨-, g1, g2⟩ := Kd.R_reads' h3
  obtain ⟨-, g3, g4⟩ := Kd.R_reads' h4
  have g5 := kids_C g4 h.len (fun j x c hx hc => by
    obtain ⟨lo, hi, hp⟩ := h.kids j x c hx hc
    exact hp.f w' (fun k hk => hm k (by have := hp.ha; have := hp.hc; omega)))
  have := k26_mk w' ⟨2, false, [], ns, ks⟩ (A2 := none) (c2 := 0) (Nat.le_refl _) (Kd.C_nil _ _) g1 g2 (A4 := A4) (c4 := c4) (by show ks.length ≤ _; rw [h.len]; exact g3) g5
  rw [← h.len]
  exact this
end Go.Proofs.Ythhajkmeadapgaa.Tree
