/- lex: the lexer's state in memory; put, fails, top. Own work. -/
import Derived.Test.YtgenfggjonhmgaaMl
import Derived.Test.YtgenfggjonhmgaaMl2
import Derived.Test.YtgenfggjonhmgaaPL
import Derived.Test.YtgenfggjonhmgaaShelf
namespace Go.Proofs.Ytgenfggjonhmgaa.Lx
set_option linter.unusedVariables false
set_option linter.unusedSimpArgs false
open Go.RowKit Go.Proofs.Ytgenfggjonhmgaa.Ml Go.Proofs.Ytgenfggjonhmgaa.PL Go.Proofs.YtgenfggjonhmgaaW.PrintWords Go.Proofs.YtgenfggjonhmgaaW.PrintLast Go.Proofs.YtgenfggjonhmgaaW.PrintMore
/-- the state of the lexer at block g: what is read, where, the tokens (at v2), the modes (at v3), where it errs -/
structure LXv (w0 W : World) (g : Nat) (s : ByteArray) (i : Int) (v2 : Value) (l : List S28) (v3 : Value) (m : List S42) (wr : Int) : Prop where
  b : W.heap[g]? = some (.cells #[.string s, .int .i64 i, v2, v3, .int .i64 wr] 45 (0, 0))
  r2 : k28.R 28 W w0.heap.size (fun _ => True) v2 l
  r3 : k42.R 42 W w0.heap.size (fun _ => True) v3 m
  hg : w0.heap.size ≤ g
  B : Below w0.heap.size w0 W
variable {w0 W : World} {g : Nat} {s : ByteArray} {i : Int} {v2 v3 : Value} {l : List S28} {m : List S42} {wr : Int}
theorem LXv.far2 (h : LXv w0 W g s i v2 l v3 m wr) (j : Nat) (u : Value) : k28.R 28 (W.setCell ⟨g, j, none⟩ u) w0.heap.size (fun _ => True) v2 l :=
  Kd.R_mono (Kd.R_far (Kd.R_types h.r2 h.b (by simp [k28, Kd.iso, Kd.pair, Kd.int, Kd.string, Kd.scalar])) (fun k hk => hk.2) u) (fun _ _ => trivial)
theorem LXv.far3 (h : LXv w0 W g s i v2 l v3 m wr) (j : Nat) (u : Value) : k42.R 42 (W.setCell ⟨g, j, none⟩ u) w0.heap.size (fun _ => True) v3 m :=
  Kd.R_mono (Kd.R_far (Kd.R_types h.r3 h.b (by simp [k42, Kd.iso, Kd.pair, Kd.int, Kd.bool, Kd.scalar])) (fun k hk => hk.2) u) (fun _ _ => trivial)
theorem LXv.at_ (h : LXv w0 W g s i v2 l v3 m wr) (x : Int) : LXv w0 (W.setCell ⟨g, 1, none⟩ (.int .i64 x)) g s x v2 l v3 m wr :=
  ⟨by simpa using blk_set h.b 1 (.int .i64 x), h.far2 _ _, h.far3 _ _, h.hg, below_set h.B h.hg⟩
theorem LXv.wr_ (h : LXv w0 W g s i v2 l v3 m wr) (x : Int) : LXv w0 (W.setCell ⟨g, 4, none⟩ (.int .i64 x)) g s i v2 l v3 m x :=
  ⟨by simpa using blk_set h.b 4 (.int .i64 x), h.far2 _ _, h.far3 _ _, h.hg, below_set h.B h.hg⟩
theorem LXv.drew (h : LXv w0 W g s i v2 l v3 m wr) : LXv w0 W.drew g s i v2 l v3 m wr := ⟨h.b, h.r2, h.r3, h.hg, below_drew h.B⟩
theorem fails_any (h : LXv w0 W g s i v2 l v3 m wr) (x : Int) : Calls Try.prog 18 #[.pointer (some ⟨g, 0, none⟩), .int .i64 x] W fun e w' => e = .returned (.tuple #[]) ∧ LXv w0 w' g s i v2 l v3 m x := by
  have hH := Aside0.mk h
  have hc4 : W.cell? ⟨g, 4, none⟩ = some (.int .i64 wr) := (blk_cell h.b 4).trans rfl
  have hf4 := blk_frozen h.b 4
  clear h
  go_enter Try.func18, Try.ntmps18
  go_wp2
  go_end0
  exact ⟨rfl, hH.out.wr_ x⟩
theorem e28 : ∀ q, q ∈ 28 :: k28.E → q = 28 := by simp [k28, Kd.iso, Kd.pair, Kd.int, Kd.string, Kd.scalar]
theorem e42 : ∀ q, q ∈ 42 :: k42.E → q = 42 := by simp [k42, Kd.iso, Kd.pair, Kd.int, Kd.bool, Kd.scalar]
theorem LXv.set2 (h : LXv w0 W g s i v2 l v3 m wr) {v1 : Value} {l1 : List S28} (hr : k28.R 28 W w0.heap.size (fun _ => True) v1 l1) : LXv w0 (W.setCell ⟨g, 2, none⟩ v1) g s i v1 l1 v3 m wr :=
  ⟨by simpa using blk_set h.b 2 v1, Kd.R_mono (Kd.R_far (Kd.R_types hr h.b (fun q hq => by rw [e28 q hq]; decide)) (fun k hk => hk.2) _) (fun _ _ => trivial), h.far3 _ _, h.hg, below_set h.B h.hg⟩
theorem LXv.set3 (h : LXv w0 W g s i v2 l v3 m wr) {v1 : Value} {m1 : List S42} (hr : k42.R 42 W w0.heap.size (fun _ => True) v1 m1) : LXv w0 (W.setCell ⟨g, 3, none⟩ v1) g s i v2 l v1 m1 wr :=
  ⟨by simpa using blk_set h.b 3 v1, h.far2 _ _, Kd.R_mono (Kd.R_far (Kd.R_types hr h.b (fun q hq => by rw [e42 q hq]; decide)) (fun k hk => hk.2) _) (fun _ _ => trivial), h.hg, below_set h.B h.hg⟩
theorem LXv.push2 (h : LXv w0 W g s i v2 l v3 m wr) {W1 : World} {v1 : Value} {l1 : List S28} (hr : k28.R 28 W1 w0.heap.size (fun _ => True) v1 l1) (hb : Below w0.heap.size w0 W1) (hg : W.grownBy W1 v2.ownBlock) (hat : v1.ownBlock = v2.ownBlock ∨ ∃ b, v1.ownBlock = some b ∧ W.heap.size ≤ b) :
    LXv w0 (W1.setCell ⟨g, 2, none⟩ v1) g s i v1 l1 v3 m wr := by
  have hB := blk_grown h.b hg (Kd.R_ne h.r2 h.b (by decide))
  obtain ⟨_, inner, hown, _⟩ := id h.r2
  have h3 : k42.R 42 W1 w0.heap.size (fun _ => True) v3 m := Kd.R_mono (Kd.R_after (Kd.R_apart' h.r3 (fun k hk => own_typed hown k hk) (fun q hq => by rw [e42 q hq]; decide)) hg hat) (fun _ _ => trivial)
  exact ⟨by simpa using blk_set hB 2 v1, Kd.R_mono (Kd.R_far (Kd.R_types hr hB (fun q hq => by rw [e28 q hq]; decide)) (fun k hk => hk.2) _) (fun _ _ => trivial), Kd.R_mono (Kd.R_far (Kd.R_types h3 hB (fun q hq => by rw [e42 q hq]; decide)) (fun k hk => hk.2) _) (fun _ _ => trivial), h.hg, below_set hb h.hg⟩
theorem LXv.push3 (h : LXv w0 W g s i v2 l v3 m wr) {W1 : World} {v1 : Value} {m1 : List S42} (hr : k42.R 42 W1 w0.heap.size (fun _ => True) v1 m1) (hb : Below w0.heap.size w0 W1) (hg : W.grownBy W1 v3.ownBlock) (hat : v1.ownBlock = v3.ownBlock ∨ ∃ b, v1.ownBlock = some b ∧ W.heap.size ≤ b) :
    LXv w0 (W1.setCell ⟨g, 3, none⟩ v1) g s i v2 l v1 m1 wr := by
  have hB := blk_grown h.b hg (Kd.R_ne h.r3 h.b (by decide))
  obtain ⟨_, inner, hown, _⟩ := id h.r3
  have h2 : k28.R 28 W1 w0.heap.size (fun _ => True) v2 l := Kd.R_mono (Kd.R_after (Kd.R_apart' h.r2 (fun k hk => own_typed hown k hk) (fun q hq => by rw [e28 q hq]; decide)) hg hat) (fun _ _ => trivial)
  exact ⟨by simpa using blk_set hB 3 v1, Kd.R_mono (Kd.R_far (Kd.R_types h2 hB (fun q hq => by rw [e28 q hq]; decide)) (fun k hk => hk.2) _) (fun _ _ => trivial), Kd.R_mono (Kd.R_far (Kd.R_types hr hB (fun q hq => by rw [e42 q hq]; decide)) (fun k hk => hk.2) _) (fun _ _ => trivial), h.hg, below_set hb h.hg⟩
theorem info28 : (Try.prog.info? 28).map (fun i => (i.zero, i.size, i.bytes)) = some (some (.agg #[.int .i64 0, .string ⟨#[]⟩, .int .i64 0]), k28.sz, 32) := by kernel_rfl
theorem info42 : (Try.prog.info? 42).map (fun i => (i.zero, i.size, i.bytes)) = some (some (.agg #[.bool false, .int .i64 0, .int .i64 0]), k42.sz, 24) := by kernel_rfl
set_option maxHeartbeats 1000000 in
theorem put_any (h : LXv w0 W g s i v2 l v3 m wr) (k : Int) (t : ByteArray) (p : Int) (hl : l.length ≤ 1000000) : Calls Try.prog 17 #[.pointer (some ⟨g, 0, none⟩), .int .i64 k, .string t, .int .i64 p] W fun e w' => e = .returned (.tuple #[]) ∧ ∃ v, LXv w0 w' g s i v (l ++ [⟨k, t, p⟩]) v3 m wr := by
  obtain ⟨A2, c2, rfl⟩ := Kd.R_slice h.r2
  have hH := Aside0.mk h
  have hc2 : W.cell? ⟨g, 2, none⟩ = some (.slice A2 l.length c2) := (blk_cell h.b 2).trans rfl
  have hf2 := blk_frozen h.b 2
  clear h
  go_enter Try.func17, Try.ntmps17
  go_wp2_with ((with_reducible refine gate_builtin (b := .append) (xs := #[.tmp 12, .tmp 17]) rfl ?_); at_builtin; refine Kd.R_append k28 (w0 := w0) w0.heap.size rfl (.tmp 12) (.tmp 17) 22 28 (.agg #[.int .i64 0, .string ⟨#[]⟩, .int .i64 0]) 32 rfl Try.underlying22 info28 rfl (by decide) (by decide) (.slice A2 l.length c2) l ⟨k, t, p⟩ [.int .i64 k, .string t, .int .i64 p] (fun _ => True) (fun _ => False) (by rfl) (by rfl) (k28_mkM W w0.heap.size (fun _ => False) ⟨k, t, p⟩) (fun _ hk => hk.elim) (fun _ _ => trivial) hH.out.r2 hH.out.B hH.out.B.size (by omega) ?_; intro v1 w1 hr1 hb1 hg1 hat1; obtain ⟨A1, c1, rfl⟩ := Kd.R_slice hr1; rw [List.length_append, List.length_singleton] at hr1 hat1; have HP := Aside0.mk (hH.out.push2 hr1 hb1 hg1 hat1); have hc2b : w1.cell? ⟨g, 2, none⟩ = some (.slice A2 l.length c2) := (blk_cell (blk_grown hH.out.b hg1 (Kd.R_ne hH.out.r2 hH.out.b (by decide))) 2).trans rfl; have hf2b := blk_frozen (blk_grown hH.out.b hg1 (Kd.R_ne hH.out.r2 hH.out.b (by decide))) 2; clear hr1 hb1 hg1 hat1 hc2 hf2)
  first | go_end0 | ((try simp only [Exit.inBlock, Exit.then]); refine bodyPost_ret (results_none rfl _ _ _) rfl ?_)
  exact ⟨rfl, _, HP.out⟩
end Go.Proofs.Ytgenfggjonhmgaa.Lx
