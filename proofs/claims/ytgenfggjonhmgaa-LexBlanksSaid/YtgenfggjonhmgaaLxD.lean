/- lex: a text begins. Own work. -/
import Derived.Test.YtgenfggjonhmgaaLxP
namespace Go.Proofs.Ytgenfggjonhmgaa.Lx
set_option linter.unusedVariables false
set_option linter.unusedSimpArgs false
open Go.RowKit Go.Proofs.Ytgenfggjonhmgaa.Ml Go.Proofs.Ytgenfggjonhmgaa.PL Go.Proofs.YtgenfggjonhmgaaW.PrintWords Go.Proofs.YtgenfggjonhmgaaW.PrintLast Go.Proofs.YtgenfggjonhmgaaW.PrintMore
variable {w0 W : World} {g : Nat} {s : ByteArray} {i : Int} {v2 v3 : Value} {l : List S28} {m : List S42} {wn : Int}
theorem LXv.below (h : LXv w0 W g s i v2 l v3 m wn) {W1 : World} (hb : Below W.heap.size W W1) : LXv w0 W1 g s i v2 l v3 m wn :=
  ⟨(hb.block g (blk_lt h.b)).trans h.b, Kd.R_below h.r2 hb, Kd.R_below h.r3 hb, h.hg, below_step h.B hb⟩
theorem textsOf_succ (m : List S42) (j : Nat) (hj : j < m.length) : textsOf (m.take (j + 1)) = textsOf (m.take j) + if (m.getD j z42).f0 = true then 1 else 0 := by
  unfold textsOf
  rw [List.take_succ_eq_append_getElem hj, List.filter_append, List.length_append]
  have e : m.getD j z42 = m[j] := by rw [List.getD_eq_getElem?_getD, List.getElem?_eq_getElem hj]; rfl
  rw [e]
  by_cases h : m[j].f0 = true
  · simp [List.filter_cons, h]
  · have h' : m[j].f0 = false := by simpa using h
    simp [List.filter_cons, h']
theorem textsOf_le (m : List S42) : textsOf m ≤ m.length := List.length_filter_le _ _
theorem info3 : (Try.prog.info? 3).map (fun i => (i.zero, i.size, i.bytes)) = some (some (.int .i64 0), 1, 8) := by kernel_rfl
def opensP (w0 : World) (g : Nat) (s : ByteArray) (k t : Nat) (v2 : Value) (l : List S28) (v3 : Value) (m : List S42) (wn : Int) (e : Ending) (w' : World) : Prop :=
  e = .returned (.tuple #[]) ∧ (if 60 ≤ t then LXv w0 w' g s (k : Int) v2 l v3 m (k : Int) else ∃ v v', LXv w0 w' g s ((k + 1 : Nat) : Int) v (l ++ [⟨5, ⟨#[]⟩, (k : Int)⟩]) v' (m ++ [⟨true, (k : Int), 0⟩]) wn)
set_option maxHeartbeats 4000000 in
theorem opens_any (k : Nat) (h : LXv w0 W g s (k : Int) v2 l v3 m wn) (hk : k ≤ 1000000) (hm : 0 < m.length) (hmm : m.length ≤ 1000000) (hl : l.length ≤ 1000000) (t : Nat) (ht : textsOf m = t) :
    Calls Try.prog 26 #[.pointer (some ⟨g, 0, none⟩)] W (opensP w0 g s k t v2 l v3 m wn) := by
  obtain ⟨gm, c, rfl⟩ := h.modes hm
  have HH := Aside0.mk h
  have HT := Aside0.mk ht
  have hc3 : W.cell? ⟨g, 3, none⟩ = some (.slice (some ⟨gm, 0, none⟩) m.length c) := (blk_cell h.b 3).trans rfl
  clear h ht
  go_enter Try.func26, Try.ntmps26
  go_wp2_with fail
  go_loopw [2, 10] (fun u2 u10 wq => ∃ j : Nat, u10 = .int .i64 (j : Int) ∧ j ≤ m.length ∧ u2 = .int .i64 (textsOf (m.take j) : Int) ∧ LXv w0 wq g s (k : Int) v2 l (.slice (some ⟨gm, 0, none⟩) m.length c) m wn) (fun _ u10 _ => m.length - (intOf u10).toNat)
  case atStart => exact ⟨0, rfl, by omega, rfl, HH.out⟩
  case round =>
    clear HH hc3
    obtain ⟨j, rfl, hj, rfl, hX⟩ := hrel
    have HX := Aside0.mk hX
    clear hX
    have hle := textsOf_le (m.take j)
    have hlt' : (m.take j).length ≤ j := by rw [List.length_take]; omega
    by_cases hlt : j < m.length
    · have hb1 : decide ((j : Int) < (m.length : Int)) = true := decide_eq_true (by omega)
      have hS := textsOf_succ m j hlt
      obtain ⟨x0, x1, x2⟩ := HX.out.mode gm c rfl j hlt
      obtain ⟨q, hq⟩ : ∃ q, m.getD j z42 = q := ⟨_, rfl⟩
      rw [hq] at hS x0 x1 x2
      obtain ⟨tt, htt⟩ : ∃ tt, textsOf (m.take j) = tt := ⟨_, rfl⟩
      rw [htt] at hS hle ⊢
      have HS := Aside0.mk hS
      clear hS hq htt
      cases hq0 : q.f0
      all_goals
        rw [hq0] at x0
        go_wp2_with fail
        refine ⟨⟨j + 1, by go_num, by omega, ?_, HX.out.below (below_alloc (Below.refl _ _) _)⟩, by simp [intOf]; omega⟩
        rw [HS.out, hq0]; go_num
    · have hb1 : decide ((j : Int) < (m.length : Int)) = false := decide_eq_false (by omega)
      obtain rfl : j = m.length := by omega
      rw [List.take_length, HT.out] at *
      clear hlt hlt' hj
      have hc1 : wr.cell? ⟨g, 1, none⟩ = some (.int .i64 (k : Int)) := (blk_cell HX.out.b 1).trans rfl
      by_cases h60 : 60 ≤ t
      · have hb2 : decide ((60 : Int) ≤ (t : Int)) = true := decide_eq_true (by omega)
        go_wp2_with (go_at_call 18; refine (fails_any HX.out _).mono ?_; rintro e w5 ⟨rfl, HH4⟩)
        first | go_end0 | ((try simp only [Exit.inBlock, Exit.then]); refine bodyPost_ret (results_none rfl _ _ _) rfl ?_)
        exact ⟨rfl, by rw [if_pos h60]; exact HH4⟩
      · have hb2 : decide ((60 : Int) ≤ (t : Int)) = false := decide_eq_false (by omega)
        go_wp2_with (go_at_call 17; refine (put_any HX.out _ _ _ hl).mono ?_; rintro e w5 ⟨rfl, v, HH5⟩)
        obtain ⟨l5, hl5⟩ : ∃ q, l ++ [(⟨5, ⟨#[]⟩, (k : Int)⟩ : S28)] = q := ⟨_, rfl⟩
        have HL5 := Aside0.mk hl5
        rw [hl5] at HH5
        clear hl5
        have HX5 := Aside0.mk HH5
        clear HH5
        have hc3 : w5.cell? ⟨g, 3, none⟩ = some (.slice (some ⟨gm, 0, none⟩) m.length c) := (blk_cell HX5.out.b 3).trans rfl
        have hc1 : w5.cell? ⟨g, 1, none⟩ = some (.int .i64 (k : Int)) := (blk_cell HX5.out.b 1).trans rfl
        have hf3 := blk_frozen HX5.out.b 3
        have hc3a : ∀ o : Obj, (w5.alloc o).cell? ⟨g, 3, none⟩ = some (.slice (some ⟨gm, 0, none⟩) m.length c) := fun o => (blk_cell (blk_alloc HX5.out.b o) 3).trans rfl
        have hc1a : ∀ o : Obj, (w5.alloc o).cell? ⟨g, 1, none⟩ = some (.int .i64 (k : Int)) := fun o => (blk_cell (blk_alloc HX5.out.b o) 1).trans rfl
        go_wp2_with fail
        go_region_law (refine Kd.R_append_step k42 (w0 := w0) w0.heap.size (by rfl) (.tmp 37) (.tmp 43) 43 42 (.agg #[.bool false, .int .i64 0, .int .i64 0]) 24 (by rfl) Try.underlying43 info42 rfl (by decide) (by decide) (.slice (some ⟨gm, 0, none⟩) m.length c) m ⟨true, (k : Int), 0⟩ [.bool true, .int .i64 (k : Int), .int .i64 0] (fun _ => True) (fun _ => False) (by rfl) (by rfl) (k42_mkM _ w0.heap.size (fun _ => False) ⟨true, (k : Int), 0⟩) (fun _ hk => hk.elim) (fun _ _ => trivial) HX5.out.drew.r3 HX5.out.drew.B HX5.out.drew.B.size (by omega) ?_; intro v1 w6 hr1 hb1 hg1 hat1; have HP0 := HX5.out.drew.push3 hr1 hb1 hg1 hat1; obtain ⟨A6, c6, rfl⟩ := Kd.R_slice hr1; have HP := Aside0.mk HP0; clear HP0; rw [List.length_append, List.length_singleton] at HP; have hc6 : w6.cell? ⟨g, 3, none⟩ = some (.slice (some ⟨gm, 0, none⟩) m.length c) := (blk_cell (blk_grown HX5.out.drew.b hg1 (Kd.R_ne HX5.out.drew.r3 HX5.out.drew.b (by decide))) 3).trans rfl; have hc61 : w6.cell? ⟨g, 1, none⟩ = some (.int .i64 (k : Int)) := (blk_cell (blk_grown HX5.out.drew.b hg1 (Kd.R_ne HX5.out.drew.r3 HX5.out.drew.b (by decide))) 1).trans rfl; have hf61 := blk_frozen (blk_grown HX5.out.drew.b hg1 (Kd.R_ne HX5.out.drew.r3 HX5.out.drew.b (by decide))) 1; have hf6 := blk_frozen (blk_grown HX5.out.drew.b hg1 (Kd.R_ne HX5.out.drew.r3 HX5.out.drew.b (by decide))) 3; clear hr1 hb1 hg1 hat1)
        all_goals
          go_wp2_with fail
          first | go_end0 | ((try simp only [Exit.inBlock, Exit.then]); refine bodyPost_ret (results_none rfl _ _ _) rfl ?_)
          refine ⟨rfl, ?_⟩
          rw [if_neg h60, HL5.out, show ((k + 1 : Nat) : Int) = (k : Int) + 1 by omega]
          exact ⟨_, _, HP.out.at_ _⟩
end Go.Proofs.Ytgenfggjonhmgaa.Lx
