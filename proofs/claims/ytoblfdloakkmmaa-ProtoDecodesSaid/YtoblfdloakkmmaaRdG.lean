/- proto: Decode, the way that reads. Own work. -/
import Derived.Test.YtoblfdloakkmmaaRdF
namespace Go.Proofs.Ytoblfdloakkmmaa.Rd
set_option linter.unusedVariables false
set_option linter.unusedSimpArgs false
open Go.RowKit Go.Proofs.Ytoblfdloakkmmaa.Mp Go.Proofs.Ytoblfdloakkmmaa.PL Go.Proofs.YtoblfdloakkmmaaW.PrintWords Go.Proofs.YtoblfdloakkmmaaW.PrintLast Go.Proofs.YtoblfdloakkmmaaW.PrintMore

/-- what holds while the numbers are read -/
structure J1 (w wr : World) (g gO : Nat) (kind : Int) (vN : Value) (ns : List Int) (l : List Int) (b : Bool) : Prop where
  obj : wr.heap[gO]? = some (.cells #[.int .i64 kind, vN, .slice none 0 0] 26 (0, 0))
  row : (Kd.int .i64).R 3 wr w.heap.size (fun _ => True) vN ns
  rd : RS 73 w wr g l b
  b8 : B8 l
  bel : Below w.heap.size w wr
  hO : w.heap.size ≤ gO
theorem RS.blk {T : Nat} {w0 w : World} {g : Nat} {l : List Int} {bad : Bool} (h : RS T w0 w g l bad) : ∃ cs, w.heap[g]? = some (.cells cs T (0, 0)) := by
  obtain ⟨A, c, h1, _⟩ := h
  exact ⟨_, h1⟩
theorem RS.alloc {T : Nat} {w0 w : World} {g : Nat} {l : List Int} {bad : Bool} (h : RS T w0 w g l bad) (o : Obj) : RS T w0 (w.alloc o) g l bad := by
  obtain ⟨A, c, h1, h2, h3, h4, hB⟩ := h
  exact ⟨A, c, blk_alloc h1 o, h2, h3, h4, below_alloc hB o⟩
theorem RS.grown {T : Nat} {w0 w w1 : World} {g : Nat} {l : List Int} {bad : Bool} {row : Option Nat} (h : RS T w0 w g l bad) (hg : w.grownBy w1 row) (hne : some g ≠ row) (hB : Below w0.heap.size w0 w1) : RS T w0 w1 g l bad := by
  obtain ⟨A, c, h1, h2, h3, h4, _⟩ := h
  exact ⟨A, c, blk_grown h1 hg hne, h2, h3, h4, hB⟩
theorem RS.far {T : Nat} {w0 w : World} {g : Nat} {l : List Int} {bad : Bool} (h : RS T w0 w g l bad) {k j : Nat} (hk : w0.heap.size ≤ k) (hne : g ≠ k) (v : Value) : RS T w0 (w.setCell ⟨k, j, none⟩ v) g l bad := by
  obtain ⟨A, c, h1, h2, h3, h4, hB⟩ := h
  exact ⟨A, c, blk_far h1 hne v, h2, h3, h4, below_set hB hk⟩
theorem J1.ne {w wr : World} {g gO : Nat} {kind : Int} {vN : Value} {ns l : List Int} {b : Bool} (h : J1 w wr g gO kind vN ns l b) : gO ≠ g := by
  obtain ⟨cs, hg⟩ := h.rd.blk
  exact blk_ne h.obj hg (by decide)
theorem J1.drew {w wr : World} {g gO : Nat} {kind : Int} {vN : Value} {ns l : List Int} {b : Bool} (h : J1 w wr g gO kind vN ns l b) : J1 w wr.drew g gO kind vN ns l b :=
  ⟨h.obj, Kd.R_drew h.row, rs_drew h.rd, h.b8, below_drew h.bel, h.hO⟩
/-- a reader's step -/
theorem J1.step {w wr w2 : World} {g gO : Nat} {kind : Int} {vN : Value} {ns l l2 : List Int} {b b2 : Bool} (h : J1 w wr g gO kind vN ns l b) (hS : RS 73 w w2 g l2 b2) (hb : B8 l2) (hK : KeepBut wr w2 g none) : J1 w w2 g gO kind vN ns l2 b2 := by
  obtain ⟨cs, hg⟩ := h.rd.blk
  exact ⟨hK.blk h.obj h.ne (by simp), Kd.R_drop (Kd.R_keep (Kd.R_types h.row hg (by decide)) hK (fun _ hk => hk.2)), hS, hb, rs_below hS, h.hO⟩
/-- a number appended, and stored back -/
theorem J1.put {w wr w2 : World} {g gO : Nat} {kind : Int} {vN vN2 : Value} {ns ns2 l : List Int} {b : Bool} (h : J1 w wr g gO kind vN ns l b) (hr : (Kd.int .i64).R 3 w2 w.heap.size (fun _ => True) vN2 ns2) (hg : wr.grownBy w2 vN.ownBlock) (hB : Below w.heap.size w w2) :
    J1 w (w2.setCell ⟨gO, 1, none⟩ vN2) g gO kind vN2 ns2 l b := by
  obtain ⟨cs, hgb⟩ := h.rd.blk
  have hne1 : some gO ≠ vN.ownBlock := Kd.R_ne h.row h.obj (by decide)
  have hne2 : some g ≠ vN.ownBlock := Kd.R_ne h.row hgb (by decide)
  have ho := blk_grown h.obj hg hne1
  refine ⟨by simpa using blk_set ho 1 vN2, Kd.R_set hr ho (by decide) 1 vN2, (h.rd.grown hg hne2 hB).far h.hO (fun e => h.ne e.symm) vN2, h.b8, below_set hB h.hO, h.hO⟩
end Go.Proofs.Ytoblfdloakkmmaa.Rd
