/- proto: Decode. Own work. -/
import Derived.Test.YtoblfdloakkmmaaRdE
import Derived.Deep.RegionLaw
namespace Go.Proofs.Ytoblfdloakkmmaa.Rd
set_option linter.unusedVariables false
set_option linter.unusedSimpArgs false
open Go.RowKit Go.Proofs.Ytoblfdloakkmmaa.Mp Go.Proofs.Ytoblfdloakkmmaa.PL Go.Proofs.YtoblfdloakkmmaaW.PrintWords Go.Proofs.YtoblfdloakkmmaaW.PrintLast Go.Proofs.YtoblfdloakkmmaaW.PrintMore

/-- the numbers of an op, read one by one -/
def nl : Nat → List Int → Bool → List Int × List Int × Bool
  | 0, l, b => ([], l, b)
  | k + 1, l, b => (IntKind.i64.wrap ((V (tk l b 8).1 : Nat) : Int) :: (nl k (tk l b 8).2.1 (tk l b 8).2.2).1, (nl k (tk l b 8).2.1 (tk l b 8).2.2).2)
/-- the texts -/
def tl : Nat → List Int → Bool → List ByteArray × List Int × Bool
  | 0, l, b => ([], l, b)
  | k + 1, l, b => ((tx l b).1 :: (tl k (tx l b).2.1 (tx l b).2.2).1, (tl k (tx l b).2.1 (tx l b).2.2).2)

/-- three cells stored anew -/
theorem three {w : World} {g t : Nat} {a b c : Value} (h : w.heap[g]? = some (.cells #[a, b, c] t (0, 0))) (x y z : Value) :
    (((w.setCell ⟨g, 0, none⟩ x).setCell ⟨g, 1, none⟩ y).setCell ⟨g, 2, none⟩ z).heap[g]? = some (.cells #[x, y, z] t (0, 0)) := by
  have h1 := blk_set (blk_set (blk_set h 0 x) 1 y) 2 z
  simpa using h1
theorem cells3 {w : World} {g t : Nat} {a b c : Value} (h : w.heap[g]? = some (.cells #[a, b, c] t (0, 0))) : w.cell? ⟨g, 0, none⟩ = some a ∧ w.cell? ⟨g, 1, none⟩ = some b ∧ w.cell? ⟨g, 2, none⟩ = some c ∧
    w.frozen? ⟨g, 0, none⟩ = false ∧ w.frozen? ⟨g, 1, none⟩ = false ∧ w.frozen? ⟨g, 2, none⟩ = false :=
  ⟨(blk_cell h 0).trans rfl, (blk_cell h 1).trans rfl, (blk_cell h 2).trans rfl, blk_frozen h 0, blk_frozen h 1, blk_frozen h 2⟩
set_option maxHeartbeats 400000 in
theorem dec_err (w : World) (A : Option Addr) (c : Nat) (l : List Int) (e : Int) (he : e ≠ 0)
    (HO : Calls Try.prog 29 #[.slice A l.length c, .func (.func 30) #[] #[]] (w.alloc (.cells #[.int .i64 0, .slice none 0 0, .slice none 0 0] 26)) fun e_ w' => e_ = .returned (.tuple #[.int .i64 0, .pointer none, .int .i64 0, .int .i64 e]) ∧ Below (w.alloc (.cells #[.int .i64 0, .slice none 0 0, .slice none 0 0] 26)).heap.size (w.alloc (.cells #[.int .i64 0, .slice none 0 0, .slice none 0 0] 26)) w') :
    Calls Try.prog 15 #[.slice A l.length c] w fun e_ w' => e_ = .returned (.tuple #[.agg #[.int .i64 0, .slice none 0 0, .slice none 0 0], .int .i64 0, .int .i64 e]) ∧ Below w.heap.size w w' := by
  have HO' := Aside0.mk HO
  clear HO
  have hne : (e != 0) = true := by simpa using he
  go_enter Try.func15, Try.ntmps15
  go_wp2_with (go_at_call 29; refine HO'.out.mono ?_; rintro e_ w1 ⟨rfl, hb⟩; have hblk : w1.heap[w.heap.size]? = some (.cells #[.int .i64 0, .slice none 0 0, .slice none 0 0] 26 (0, 0)) := (hb.block w.heap.size (by simp)).trans (heap_alloc_new w _); have HBLK := Aside0.mk hblk; obtain ⟨hc0, hc1, hc2, hf0, hf1, hf2⟩ := cells3 hblk; have HB := Aside0.mk (below_then (below_alloc (Below.refl _ w) _) (by simp) hb : Below w.heap.size w w1); clear hb HO' hblk)
  have h3 := three HBLK.out (.int .i64 0) (.slice none 0 0) (.slice none 0 0)
  have hb3 : Below w.heap.size w (((w1.setCell ⟨w.heap.size, 0, none⟩ (.int .i64 0)).setCell ⟨w.heap.size, 1, none⟩ (.slice none 0 0)).setCell ⟨w.heap.size, 2, none⟩ (.slice none 0 0)) := below_set (below_set (below_set HB.out (Nat.le_refl _)) (Nat.le_refl _)) (Nat.le_refl _)
  generalize (((w1.setCell ⟨w.heap.size, 0, none⟩ (.int .i64 0)).setCell ⟨w.heap.size, 1, none⟩ (.slice none 0 0)).setCell ⟨w.heap.size, 2, none⟩ (.slice none 0 0)) = w3 at *
  obtain ⟨g0, g1, g2, _, _, _⟩ := cells3 h3
  exact bodyPost_ret (v := .tuple #[.agg #[.int .i64 0, .slice none 0 0, .slice none 0 0], .int .i64 0, .int .i64 e]) (by simp [results, Try.results15, go_sem, g0, g1, g2]) rfl ⟨rfl, hb3⟩
end Go.Proofs.Ytoblfdloakkmmaa.Rd
