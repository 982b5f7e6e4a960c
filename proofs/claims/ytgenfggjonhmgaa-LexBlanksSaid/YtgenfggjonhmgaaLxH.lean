/- lex: a text's piece. Own work. -/
import Derived.Test.YtgenfggjonhmgaaLxG
import Derived.Deep.RegionLaw
namespace Go.Proofs.Ytgenfggjonhmgaa.Lx
set_option linter.unusedVariables false
set_option linter.unusedSimpArgs false
open Go.RowKit Go.Proofs.Ytgenfggjonhmgaa.Ml Go.Proofs.Ytgenfggjonhmgaa.PL Go.Proofs.YtgenfggjonhmgaaW.PrintWords Go.Proofs.YtgenfggjonhmgaaW.PrintLast Go.Proofs.YtgenfggjonhmgaaW.PrintMore
variable {w0 W : World} {g B : Nat} {s : ByteArray} {i at0 : Int} {v2 v3 vb : Value} {l : List S28} {m : List S42} {wn : Int} {acc : List Int}
def putP (w0 W : World) (g : Nat) (s : ByteArray) (i : Int) (v2 : Value) (l : List S28) (v3 : Value) (m : List S42) (wn : Int) (x : S28) (e : Ending) (w' : World) : Prop :=
  e = .returned (.tuple #[]) ∧ ∃ v, LXv w0 w' g s i v (l ++ [x]) v3 m wn ∧ Kept W w' (fun k => k = g ∨ some k = v2.ownBlock)
set_option maxHeartbeats 1000000 in
theorem put_kept (h : LXv w0 W g s i v2 l v3 m wn) (k : Int) (t : ByteArray) (p : Int) (hl : l.length ≤ 1000000) : Calls Try.prog 17 #[.pointer (some ⟨g, 0, none⟩), .int .i64 k, .string t, .int .i64 p] W (putP w0 W g s i v2 l v3 m wn ⟨k, t, p⟩) := by
  obtain ⟨A2, c2, rfl⟩ := Kd.R_slice h.r2
  have hH := Aside0.mk h
  have hc2 : W.cell? ⟨g, 2, none⟩ = some (.slice A2 l.length c2) := (blk_cell h.b 2).trans rfl
  have hf2 := blk_frozen h.b 2
  clear h
  go_enter Try.func17, Try.ntmps17
  go_wp2_with ((with_reducible refine gate_builtin (b := .append) (xs := #[.tmp 12, .tmp 17]) rfl ?_); at_builtin; refine Kd.R_append k28 (w0 := w0) w0.heap.size rfl (.tmp 12) (.tmp 17) 22 28 (.agg #[.int .i64 0, .string ⟨#[]⟩, .int .i64 0]) 32 rfl Try.underlying22 info28 rfl (by decide) (by decide) (.slice A2 l.length c2) l ⟨k, t, p⟩ [.int .i64 k, .string t, .int .i64 p] (fun _ => True) (fun _ => False) (by rfl) (by rfl) (k28_mkM W w0.heap.size (fun _ => False) ⟨k, t, p⟩) (fun _ hk => hk.elim) (fun _ _ => trivial) hH.out.r2 hH.out.B hH.out.B.size (by omega) ?_; intro v1 w1 hr1 hb1 hg1 hat1; obtain ⟨A1, c1, rfl⟩ := Kd.R_slice hr1; rw [List.length_append, List.length_singleton] at hr1 hat1; have HP := Aside0.mk (hH.out.push2 hr1 hb1 hg1 hat1); have HK := Aside0.mk (Kept.of_grown hg1 (Kept.refl W (fun k => k = g ∨ some k = (Value.slice A2 l.length c2).ownBlock)) (fun k hk => .inl (.inr hk.symm))); have hc2b : w1.cell? ⟨g, 2, none⟩ = some (.slice A2 l.length c2) := (blk_cell (blk_grown hH.out.b hg1 (Kd.R_ne hH.out.r2 hH.out.b (by decide))) 2).trans rfl; have hf2b := blk_frozen (blk_grown hH.out.b hg1 (Kd.R_ne hH.out.r2 hH.out.b (by decide))) 2; clear hr1 hb1 hg1 hat1 hc2 hf2)
  first | go_end0 | ((try simp only [Exit.inBlock, Exit.then]); refine bodyPost_ret (results_none rfl _ _ _) rfl ?_)
  exact ⟨rfl, _, HP.out, HK.out.setCell (.inl (.inl rfl)) _⟩
/-- text's variables in memory: x at B, at at B + 1, b at B + 2 -/
structure TXv (w0 W : World) (g B : Nat) (s : ByteArray) (i : Int) (v2 : Value) (l : List S28) (v3 : Value) (m : List S42) (wn : Int) (at0 : Int) (vb : Value) (acc : List Int) : Prop where
  lx : LXv w0 W g s i v2 l v3 m wn
  b1 : W.heap[B]? = some (.cells #[.pointer (some ⟨g, 0, none⟩)] 40 (0, 0))
  b2 : W.heap[B + 1]? = some (.cells #[.int .i64 at0] 3 (0, 0))
  b3 : W.heap[B + 2]? = some (.cells #[vb] 31 (0, 0))
  r : (Kd.int .u8).R 5 W w0.heap.size (fun _ => True) vb acc
  hB : w0.heap.size ≤ B
theorem e5 : ∀ q, q ∈ 5 :: (Kd.int .u8).E → q = 5 := by simp [Kd.int, Kd.scalar]
theorem blk_ne {W : World} {a b : Nat} {c d : Array Value} {t u : TypeId} {p q : Nat × Nat} (h : W.heap[a]? = some (.cells c t p)) (k : W.heap[b]? = some (.cells d u q)) (ht : t ≠ u) : a ≠ b := by
  rintro rfl
  have := h.symm.trans k
  injection this with this
  injection this with _ this
  exact ht this
theorem TXv.drawn (h : TXv w0 W g B s i v2 l v3 m wn at0 vb acc) {W' : World} (hd : Drawn0 W W') : TXv w0 W' g B s i v2 l v3 m wn at0 vb acc := by
  have hl := h.lx.drawn hd
  obtain ⟨n, rfl⟩ := hd.out
  exact ⟨hl, h.b1, h.b2, h.b3, Kd.R_drewN h.r n, h.hB⟩
theorem TXv.drew (h : TXv w0 W g B s i v2 l v3 m wn at0 vb acc) : TXv w0 W.drew g B s i v2 l v3 m wn at0 vb acc := ⟨h.lx.drew, h.b1, h.b2, h.b3, Kd.R_drew h.r, h.hB⟩
theorem TXv.at_ (h : TXv w0 W g B s i v2 l v3 m wn at0 vb acc) (x : Int) : TXv w0 (W.setCell ⟨g, 1, none⟩ (.int .i64 x)) g B s x v2 l v3 m wn at0 vb acc :=
  ⟨h.lx.at_ x, blk_far h.b1 (blk_ne h.b1 h.lx.b (by decide)) _, blk_far h.b2 (blk_ne h.b2 h.lx.b (by decide)) _, blk_far h.b3 (blk_ne h.b3 h.lx.b (by decide)) _,
    Kd.R_mono (Kd.R_far (Kd.R_types h.r h.lx.b (fun q hq => by rw [e5 q hq]; decide)) (fun k hk => hk.2) _) (fun _ _ => trivial), h.hB⟩
/-- the piece's row has grown -/
theorem TXv.push (h : TXv w0 W g B s i v2 l v3 m wn at0 vb acc) {W1 : World} {v1 : Value} {acc1 : List Int} (hr : (Kd.int .u8).R 5 W1 w0.heap.size (fun _ => True) v1 acc1) (hb : Below w0.heap.size w0 W1) (hg : W.grownBy W1 vb.ownBlock) :
    TXv w0 (W1.setCell ⟨B + 2, 0, none⟩ v1) g B s i v2 l v3 m wn at0 v1 acc1 := by
  obtain ⟨_, inner, hown, _⟩ := id h.r
  have hne : ∀ k, vb.ownBlock = some k → ∃ cells, W.heap[k]? = some (.cells cells 5 (0, 0)) := fun k hk => own_typed hown k hk
  have hB1 := blk_grown h.b1 hg (Kd.R_ne h.r h.b1 (by decide))
  have hB2 := blk_grown h.b2 hg (Kd.R_ne h.r h.b2 (by decide))
  have hB3 := blk_grown h.b3 hg (Kd.R_ne h.r h.b3 (by decide))
  have hG := blk_grown h.lx.b hg (Kd.R_ne h.r h.lx.b (by decide))
  have h2 : k28.R 28 W1 w0.heap.size (fun _ => True) v2 l := Kd.R_mono (Kd.R_grown (Kd.R_apart' h.lx.r2 hne (fun q hq => by rw [e28 q hq]; decide)) hg (fun k hk => hk.2)) (fun _ _ => trivial)
  have h3 : k42.R 42 W1 w0.heap.size (fun _ => True) v3 m := Kd.R_mono (Kd.R_grown (Kd.R_apart' h.lx.r3 hne (fun q hq => by rw [e42 q hq]; decide)) hg (fun k hk => hk.2)) (fun _ _ => trivial)
  refine ⟨⟨blk_far hG (blk_ne hG hB3 (by decide)) _, Kd.R_mono (Kd.R_far (Kd.R_types h2 hB3 (fun q hq => by rw [e28 q hq]; decide)) (fun k hk => hk.2) _) (fun _ _ => trivial), Kd.R_mono (Kd.R_far (Kd.R_types h3 hB3 (fun q hq => by rw [e42 q hq]; decide)) (fun k hk => hk.2) _) (fun _ _ => trivial), h.lx.hg, below_set hb (by have := h.hB; omega)⟩, blk_far hB1 (by show B ≠ B + 2; omega) _, blk_far hB2 (by show B + 1 ≠ B + 2; omega) _, by simpa using blk_set hB3 0 v1, Kd.R_mono (Kd.R_far (Kd.R_types hr hB3 (fun q hq => by rw [e5 q hq]; decide)) (fun k hk => hk.2) _) (fun _ _ => trivial), h.hB⟩
def pieceP (w0 : World) (g B : Nat) (s : ByteArray) (i : Int) (l : List S28) (v3 : Value) (m : List S42) (wn : Int) (e : Ending) (w' : World) : Prop :=
  e = .returned (.tuple #[]) ∧ ∃ v, LXv w0 w' g s i v l v3 m wn ∧ w'.heap[B]? = some (.cells #[.pointer (some ⟨g, 0, none⟩)] 40 (0, 0))
theorem kept_b1 (h : LXv w0 W g s i v2 l v3 m wn) (b1 : W.heap[B]? = some (.cells #[.pointer (some ⟨g, 0, none⟩)] 40 (0, 0))) {W' : World} (hk : Kept W W' (fun k => k = g ∨ some k = v2.ownBlock)) :
    W'.heap[B]? = some (.cells #[.pointer (some ⟨g, 0, none⟩)] 40 (0, 0)) := by
  refine blk_kept b1 hk ?_
  rintro (e | e)
  · exact blk_ne b1 h.b (by decide) e
  · exact Kd.R_ne h.r2 b1 (by decide) e
set_option maxHeartbeats 1000000 in
theorem piece_any (k0 : Nat) (h : TXv w0 W g B s i v2 l v3 m wn (k0 : Int) vb acc) (hl : l.length ≤ 1000000) (ha : acc.length ≤ 1000000) (l' : List S28) (hl' : pieceL l acc k0 = l') :
    Calls Try.prog 19 #[.pointer (some ⟨B + 2, 0, none⟩), .pointer (some ⟨B, 0, none⟩), .pointer (some ⟨B + 1, 0, none⟩)] W (pieceP w0 g B s i l' v3 m wn) := by
  obtain ⟨A, c, rfl⟩ := Kd.R_slice h.r
  have HH := Aside0.mk h
  have HL := Aside0.mk hl'
  have hb1 : W.cell? ⟨B, 0, none⟩ = some (.pointer (some ⟨g, 0, none⟩)) := (blk_cell h.b1 0).trans rfl
  have hb2 : W.cell? ⟨B + 1, 0, none⟩ = some (.int .i64 (k0 : Int)) := (blk_cell h.b2 0).trans rfl
  have hb3 : W.cell? ⟨B + 2, 0, none⟩ = some (.slice A acc.length c) := (blk_cell h.b3 0).trans rfl
  have hcv := Kd.C_string (P := Try.prog) (src := 31) (dst := 9) (e := 5) Try.underlying31 Try.underlying5 Try.underlying9 (Kd.R_reads' h.r).2.2 (c := c)
  clear h hl'
  by_cases h0 : acc = []
  · subst h0
    unfold pieceL at HL
    go_enter Try.func19, Try.ntmps19
    go_wp2_with fail
    first | go_end0 | ((try simp only [Exit.inBlock, Exit.then]); refine bodyPost_ret (results_none rfl _ _ _) rfl ?_)
    refine ⟨rfl, v2, ?_, HH.out.b1⟩
    have hl := HL.out
    rw [if_pos trivial] at hl
    rw [← hl]
    exact HH.out.lx
  · have hpos : 0 < acc.length := List.length_pos_iff.2 h0
    have hd : decide ((0 : Int) < (acc.length : Int)) = true := decide_eq_true (by omega)
    have H0 := Aside0.mk h0
    obtain ⟨st, hst⟩ : ∃ st, strOfNums acc = st := ⟨_, rfl⟩
    rw [hst] at hcv
    have HST := Aside0.mk hst
    clear h0 hst
    go_enter Try.func19, Try.ntmps19
    go_wp2_with (go_at_call 17; refine (put_kept HH.out.lx _ _ _ hl).mono ?_; rintro e w5 ⟨rfl, v, HH4, hK⟩; have HB1 := Aside0.mk (kept_b1 HH.out.lx HH.out.b1 hK); have HX := Aside0.mk HH4; clear HH4 hK)
    first | go_end0 | ((try simp only [Exit.inBlock, Exit.then]); refine bodyPost_ret (results_none rfl _ _ _) rfl ?_)
    refine ⟨rfl, v, ?_, HB1.out⟩
    rw [← HL.out]
    unfold pieceL
    rw [if_neg H0.out, HST.out]
    exact HX.out
end Go.Proofs.Ytgenfggjonhmgaa.Lx
