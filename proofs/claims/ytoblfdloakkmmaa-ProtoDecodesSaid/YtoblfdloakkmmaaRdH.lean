/- proto: Decode, the way that reads: the texts. Own work. -/
import Derived.Test.YtoblfdloakkmmaaRdG
namespace Go.Proofs.Ytoblfdloakkmmaa.Rd
set_option linter.unusedVariables false
set_option linter.unusedSimpArgs false
open Go.RowKit Go.Proofs.Ytoblfdloakkmmaa.Mp Go.Proofs.Ytoblfdloakkmmaa.PL Go.Proofs.YtoblfdloakkmmaaW.PrintWords Go.Proofs.YtoblfdloakkmmaaW.PrintLast Go.Proofs.YtoblfdloakkmmaaW.PrintMore

theorem rows_ne {α β : Type} {d1 : Kd α} {d2 : Kd β} {e1 e2 base : Nat} {ok1 ok2 : Nat → Prop} {w : World} {v1 v2 : Value} {xs : List α} {ys : List β} (hE1 : d1.E = []) (hE2 : d2.E = []) (hne : e1 ≠ e2) (h1 : d1.R e1 w base ok1 v1 xs) (h2 : d2.R e2 w base ok2 v2 ys) :
    ∀ k, v1.ownBlock = some k → some k ≠ v2.ownBlock := by
  intro k hk1 hk2
  obtain ⟨_, _, _, q1, hq1, c1, hc1⟩ := (Kd.R_bound h1).1 k hk1
  obtain ⟨_, _, _, q2, hq2, c2, hc2⟩ := (Kd.R_bound h2).1 k hk2.symm
  rw [hE1] at hq1
  rw [hE2] at hq2
  simp only [List.mem_singleton] at hq1 hq2
  rw [hc1] at hc2
  simp only [Option.some.injEq, Obj.cells.injEq] at hc2
  exact hne (hq1 ▸ hq2 ▸ hc2.2.1)
/-- what holds while the texts are read -/
structure J2 (w wr : World) (g gO : Nat) (kind : Int) (vN vT : Value) (ns : List Int) (ts : List ByteArray) (l : List Int) (b : Bool) : Prop where
  obj : wr.heap[gO]? = some (.cells #[.int .i64 kind, vN, vT] 26 (0, 0))
  rowN : (Kd.int .i64).R 3 wr w.heap.size (fun _ => True) vN ns
  row : Kd.string.R 9 wr w.heap.size (fun _ => True) vT ts
  rd : RS 73 w wr g l b
  b8 : B8 l
  bel : Below w.heap.size w wr
  hO : w.heap.size ≤ gO
theorem J1.two {w wr : World} {g gO : Nat} {kind : Int} {vN : Value} {ns l : List Int} {b : Bool} (h : J1 w wr g gO kind vN ns l b) : J2 w wr g gO kind vN (.slice none 0 0) ns [] l b :=
  ⟨h.obj, h.row, Kd.R_nil _ _ _ _ _, h.rd, h.b8, h.bel, h.hO⟩
theorem J2.ne {w wr : World} {g gO : Nat} {kind : Int} {vN vT : Value} {ns l : List Int} {ts : List ByteArray} {b : Bool} (h : J2 w wr g gO kind vN vT ns ts l b) : gO ≠ g := by
  obtain ⟨cs, hg⟩ := h.rd.blk
  exact blk_ne h.obj hg (by decide)
theorem J2.drew {w wr : World} {g gO : Nat} {kind : Int} {vN vT : Value} {ns l : List Int} {ts : List ByteArray} {b : Bool} (h : J2 w wr g gO kind vN vT ns ts l b) : J2 w wr.drew g gO kind vN vT ns ts l b :=
  ⟨h.obj, Kd.R_drew h.rowN, Kd.R_drew h.row, rs_drew h.rd, h.b8, below_drew h.bel, h.hO⟩
/-- a reader's step -/
theorem J2.step {w wr w2 : World} {g gO : Nat} {kind : Int} {vN vT : Value} {ns l l2 : List Int} {ts : List ByteArray} {b b2 : Bool} (h : J2 w wr g gO kind vN vT ns ts l b) (hS : RS 73 w w2 g l2 b2) (hb : B8 l2) (hK : KeepBut wr w2 g none) : J2 w w2 g gO kind vN vT ns ts l2 b2 := by
  obtain ⟨cs, hg⟩ := h.rd.blk
  exact ⟨hK.blk h.obj h.ne (by simp), Kd.R_drop (Kd.R_keep (Kd.R_types h.rowN hg (by decide)) hK (fun _ hk => hk.2)), Kd.R_drop (Kd.R_keep (Kd.R_types h.row hg (by decide)) hK (fun _ hk => hk.2)), hS, hb, rs_below hS, h.hO⟩
/-- a text appended, and stored back -/
theorem J2.put {w wr w2 : World} {g gO : Nat} {kind : Int} {vN vT vT2 : Value} {ns l : List Int} {ts ts2 : List ByteArray} {b : Bool} (h : J2 w wr g gO kind vN vT ns ts l b) (hr : Kd.string.R 9 w2 w.heap.size (fun _ => True) vT2 ts2) (hg : wr.grownBy w2 vT.ownBlock) (hB : Below w.heap.size w w2) :
    J2 w (w2.setCell ⟨gO, 2, none⟩ vT2) g gO kind vN vT2 ns ts2 l b := by
  obtain ⟨cs, hgb⟩ := h.rd.blk
  have hne1 : some gO ≠ vT.ownBlock := Kd.R_ne h.row h.obj (by decide)
  have hne2 : some g ≠ vT.ownBlock := Kd.R_ne h.row hgb (by decide)
  have ho := blk_grown h.obj hg hne1
  have hN : (Kd.int .i64).R 3 w2 w.heap.size (fun _ => True) vN ns := Kd.R_grown2 h.rowN rfl hg (rows_ne rfl rfl (by decide) h.row h.rowN)
  refine ⟨by simpa using blk_set ho 2 vT2, Kd.R_set hN ho (by decide) 2 vT2, Kd.R_set hr ho (by decide) 2 vT2, (h.rd.grown hg hne2 hB).far h.hO (fun e => h.ne e.symm) vT2, h.b8, below_set hB h.hO, h.hO⟩
theorem tx_B8 {l : List Int} (hb : B8 l) (bad : Bool) : B8 (tx l bad).2.1 := by
  unfold tx
  exact (tk_B8 (tk_B8 hb bad 4).2 _ _).2
theorem up_le (l : List Int) (b : Bool) (m : Nat) : (up l b m).1 ≤ m := by
  unfold up; simp only; split
  · omega
  · rename_i h9; simp at h9; omega
end Go.Proofs.Ytoblfdloakkmmaa.Rd
