/- lex: Lex, by the plain lexer. Own work. -/
import Derived.Test.YtgenfggjonhmgaaLxI
import Derived.Test.YtgenfggjonhmgaaLxJ
namespace Go.Proofs.Ytgenfggjonhmgaa.Lx
set_option linter.unusedVariables false
set_option linter.unusedSimpArgs false
open Go.RowKit Go.Proofs.Ytgenfggjonhmgaa.Ml Go.Proofs.Ytgenfggjonhmgaa.PL Go.Proofs.YtgenfggjonhmgaaW.PrintWords Go.Proofs.YtgenfggjonhmgaaW.PrintLast Go.Proofs.YtgenfggjonhmgaaW.PrintMore
variable {w0 W : World} {g : Nat} {s : ByteArray}
theorem ends_s {x : LS} (h : LXs w0 W g s x) (hO : Okl s x) (hm : 1 < x.m.length) : Calls Try.prog 13 #[.pointer (some ⟨g, 0, none⟩)] W (LXp w0 g s (endsS x)) := by
  obtain ⟨v2, v3, h⟩ := h
  refine (ends_any h (by omega) (by have := hO.ml; have := hO.le; have := hO.sz; omega) _ _ rfl rfl).mono ?_
  rintro e w' ⟨rfl, hv⟩
  exact ⟨rfl, v2, v3, hv⟩
theorem LXs.first (w : World) (s : ByteArray) : LXs w ((w.alloc (.cells #[.bool false, .int .i64 0, .int .i64 0] 42)).alloc (.cells #[.string s, .int .i64 0, .slice none 0 0, .slice (some ⟨w.heap.size, 0, none⟩) 1 1, .int .i64 (-1)] 45)) (w.heap.size + 1) s startS := by
  refine ⟨.slice none 0 0, .slice (some ⟨w.heap.size, 0, none⟩) 1 1, ?_, Kd.R_nil _ _ _ _ _, ?_, by omega, below_alloc (below_alloc (Below.refl _ _) _) _⟩
  · have := blk_new (w.alloc (.cells #[.bool false, .int .i64 0, .int .i64 0] 42)) (.cells #[.string s, .int .i64 0, .slice none 0 0, .slice (some ⟨w.heap.size, 0, none⟩) 1 1, .int .i64 (-1)] 45)
    simpa [startS] using this
  · refine Kd.R_alloc ⟨fun _ _ => trivial, ?_⟩ _
    exact OwnRow.lit (e := 42) w w.heap.size (Reps.c3 (k42_mkM _ _ _ ⟨false, 0, 0⟩) (Reps.none _ _)) (Nat.le_refl _) (by decide)
def lexP (w : World) (s : ByteArray) (e : Ending) (w' : World) : Prop :=
  ∃ v, e = .returned (.tuple #[v, .int .i64 (lexS s).2.1, .int .i64 (lexS s).2.2]) ∧ k28.R 28 w' w.heap.size (fun _ => True) v (lexS s).1 ∧ Below w.heap.size w w'
theorem run_done {s : ByteArray} {n : Nat} {x : LS} (h : goesOn s x = false) : runS s n x = x := by
  cases n with
  | zero => rfl
  | succ n => rw [runS, if_neg (by rw [h]; decide)]
/-- how Lex's loop stands -/
structure LkR (w wr : World) (g : Nat) (s : ByteArray) (n : Nat) (x : LS) : Prop where
  lx : LXs w wr g s x
  ok : Okl s x
  run : runS s n x = endS s
  mu : mu s x ≤ n
theorem LkR.next {w wr w5 : World} {g n : Nat} {x : LS} (h : LkR w wr g s (n + 1) x) (hg : goesOn s x = true) (hx : LXs w w5 g s (stepS s x)) : LkR w w5 g s n (stepS s x) := by
  have hs := step_ok h.ok hg
  refine ⟨hx, hs.ok, ?_, by have := hs.mu; have := h.mu; omega⟩
  have := h.run
  rw [runS, if_pos hg] at this
  exact this
theorem lex_long (s : ByteArray) (w : World) (h : 16384 < s.size) : Calls Try.prog 9 #[.string s] w (lexP w s) := by
  have HS : lexS s = ([], 0, 5) := by unfold lexS; rw [if_pos h]
  have d1 : decide ((16384 : Int) < (s.size : Int)) = true := decide_eq_true (by omega)
  have H := Aside0.mk HS
  clear HS h
  go_enter Try.func9, Try.ntmps9
  go_wp2_with fail
  refine bodyPost_ret (v := .tuple #[.slice none 0 0, .int .i64 0, .int .i64 5]) (by simp [results, Try.results9, go_sem]) rfl ?_
  unfold lexP
  rw [H.out]
  exact ⟨_, rfl, Kd.R_nil _ _ _ _ _, Below.refl _ _⟩
set_option maxRecDepth 100000 in
set_option maxHeartbeats 4000000 in
theorem lex_short (s : ByteArray) (w : World) (h : s.size ≤ 16384) : Calls Try.prog 9 #[.string s] w (lexP w s) := by
  have d1 : decide ((16384 : Int) < (s.size : Int)) = false := decide_eq_false (by omega)
  have HF := Aside0.mk (LXs.first w s)
  have HE := Aside0.mk (end_ind h (fun _ => True) trivial (fun _ _ _ _ => trivial)).2
  have HS := Aside0.mk h
  clear h
  go_enter Try.func9, Try.ntmps9
  go_wp2_with fail
  generalize ((w.alloc (.cells #[.bool false, .int .i64 0, .int .i64 0] 42)).alloc (.cells #[.string s, .int .i64 0, .slice none 0 0, .slice (some ⟨w.heap.size, 0, none⟩) 1 1, .int .i64 (-1)] 45)) = w1 at *
  generalize w.heap.size + 1 = g at *
  go_loopg [38] (s.size + 2) (fun n u38 wq => ∃ x, LkR w wq g s n x)
  case atStart => exact ⟨startS, HF.out, start_ok HS.out, rfl, by unfold mu startS; simp⟩
  case round =>
    clear HF
    obtain ⟨x, hR⟩ := hrel
    have HR := Aside0.mk hR
    obtain ⟨v2, v3, hX⟩ := hR.lx
    have hO := hR.ok
    have hmc := hO.ml
    have hm0 := hO.m0
    have hle := hO.le
    have hsz := hO.sz
    clear hR hO
    obtain ⟨i, l, m, wn⟩ := x
    simp only at hX hmc hm0 hle
    obtain ⟨gm, cm, rfl⟩ := hX.modes hm0
    have HX := Aside0.mk hX
    have c0 : wr.cell? ⟨g, 0, none⟩ = some (.string s) := (blk_cell hX.b 0).trans rfl
    have c1 : wr.cell? ⟨g, 1, none⟩ = some (.int .i64 (i : Int)) := (blk_cell hX.b 1).trans rfl
    have c3 : wr.cell? ⟨g, 3, none⟩ = some (.slice (some ⟨gm, 0, none⟩) m.length cm) := (blk_cell hX.b 3).trans rfl
    have c4 : wr.cell? ⟨g, 4, none⟩ = some (.int .i64 wn) := (blk_cell hX.b 4).trans rfl
    clear hX
    by_cases hg : goesOn s ⟨i, l, m, wn⟩ = true
    · have hg' := hg
      unfold goesOn at hg'
      rw [Bool.and_eq_true, Bool.or_eq_true, decide_eq_true_eq, decide_eq_true_eq, decide_eq_true_eq] at hg'
      obtain ⟨hw, hgo⟩ := hg'
      simp only at hw hgo
      have hsk := step_ok HR.out.ok hg
      have HK := Aside0.mk hsk
      have dw : decide (wn < 0) = true := decide_eq_true hw
      have HG := Aside0.mk hg
      clear hsk hg
      obtain ⟨n, rfl⟩ : ∃ n, gk = n + 1 := ⟨gk - 1, by have h1 := HR.out.mu; have h2 := mu_pos (s := s) (x := ⟨i, l, m, wn⟩) hw; omega⟩
      by_cases hend : s.size ≤ i
      · have hm1 : 1 < m.length := by rcases hgo with h | h <;> omega
        have d2 : decide ((i : Int) < (s.size : Int)) = false := decide_eq_false (by omega)
        have d2n : decide (i < s.size) = false := decide_eq_false (by omega)
        have d3 : decide ((1 : Int) < (m.length : Int)) = true := decide_eq_true (by omega)
        have d4 : decide ((s.size : Int) ≤ (i : Int)) = true := decide_eq_true (by omega)
        have HST := Aside0.mk (show stepS s ⟨i, l, m, wn⟩ = endsS ⟨i, l, m, wn⟩ by unfold stepS; rw [if_pos hend])
        clear hgo
        go_wp2_with (go_at_call 13; refine (ends_s HR.out.lx HR.out.ok hm1).mono ?_; rintro e w5 ⟨rfl, HH⟩)
        go_roundg n
        case measure => omega
        case rel => exact ⟨_, HR.out.next HG.out (by rw [HST.out]; exact HH)⟩
      · have d2 : decide ((i : Int) < (s.size : Int)) = true := decide_eq_true (by omega)
        have d4 : decide ((s.size : Int) ≤ (i : Int)) = false := decide_eq_false (by omega)
        have HTP := Aside0.mk (top_any HX.out gm cm rfl hm0 (by omega))
        obtain ⟨q, hq⟩ : ∃ q, topM m = q := ⟨_, rfl⟩
        have HQ := Aside0.mk hq
        have hlt : i < s.size := by omega
        cases hqf : q.f0
        · have HST := Aside0.mk (show stepS s ⟨i, l, m, wn⟩ = codeS s ⟨i, l, m, wn⟩ by unfold stepS; rw [if_neg hend, if_neg (by rw [show topM m = q from hq, hqf]; decide)])
          clear hgo hq hend
          go_wp2_with (first | (go_at_call 14; refine HTP.out.mono ?_; rintro e w5 ⟨rfl, hd⟩; have HX5 := Aside0.mk (HX.out.drawn hd); have c50 := (HX5.out.mode gm cm rfl (m.length - 1) (by omega)).1; rw [show m.getD (m.length - 1) z42 = q from HQ.out, hqf] at c50; clear hd) | (go_at_call 16; refine (code_s ⟨_, _, HX5.out⟩ HR.out.ok hlt).mono ?_; rintro e w6 ⟨rfl, HH⟩))
          go_roundg n
          case measure => omega
          case rel => exact ⟨_, HR.out.next HG.out (by rw [HST.out]; exact HH)⟩
        · have hm2 : 2 ≤ m.length := by
            have hb := HR.out.ok.bot
            rcases Nat.lt_or_ge m.length 2 with h | h
            · exfalso
              have h1 : m.length = 1 := by omega
              unfold topM at hq
              rw [h1] at hq
              simp only at hb
              rw [show m.getD 0 z42 = q from hq, hqf] at hb
              cases hb
            · exact h
          have HST := Aside0.mk (show stepS s ⟨i, l, m, wn⟩ = textS s ⟨i, l, m, wn⟩ by unfold stepS; rw [if_neg hend, if_pos (by rw [show topM m = q from hq]; exact hqf)])
          clear hgo hq hend
          go_wp2_with (first | (go_at_call 14; refine HTP.out.mono ?_; rintro e w5 ⟨rfl, hd⟩; have HX5 := Aside0.mk (HX.out.drawn hd); have c50 := (HX5.out.mode gm cm rfl (m.length - 1) (by omega)).1; rw [show m.getD (m.length - 1) z42 = q from HQ.out, hqf] at c50; clear hd) | (go_at_call 15; refine (text_s ⟨_, _, HX5.out⟩ HR.out.ok hlt hm2).mono ?_; rintro e w6 ⟨rfl, HH⟩))
          go_roundg n
          case measure => omega
          case rel => exact ⟨_, HR.out.next HG.out (by rw [HST.out]; exact HH)⟩
    · have hg0 : goesOn s ⟨i, l, m, wn⟩ = false := by simpa using hg
      have hE : endS s = ⟨i, l, m, wn⟩ := by rw [← HR.out.run]; exact run_done hg0
      have hL : lexS s = (if 0 ≤ wn then ([], wn, 24) else (l ++ [⟨9, ⟨#[]⟩, (s.size : Int)⟩], 0, 0)) := by unfold lexS; rw [if_neg (by omega), hE]
      have HL := Aside0.mk hL
      have hg' := hg0
      unfold goesOn at hg'
      simp only at hg'
      have hll := HR.out.ok.ll
      simp only at hll
      clear hg hE hL hg0
      by_cases hw : wn < 0
      · rw [decide_eq_true hw, Bool.true_and, Bool.or_eq_false_iff, decide_eq_false_iff_not, decide_eq_false_iff_not] at hg'
        obtain ⟨h1, h2⟩ := hg'
        have dw : decide (wn < 0) = true := decide_eq_true hw
        have d2 : decide ((i : Int) < (s.size : Int)) = false := decide_eq_false (by omega)
        have d2n : decide (i < s.size) = false := decide_eq_false (by omega)
        have d3 : decide ((1 : Int) < (m.length : Int)) = false := decide_eq_false (by omega)
        have d5 : decide ((0 : Int) ≤ wn) = false := decide_eq_false (by omega)
        have hwn : ¬ (0 ≤ wn) := by omega
        have HW := Aside0.mk hwn
        clear h1 h2 hwn
        obtain ⟨l6, hl6⟩ : ∃ q, l ++ [(⟨9, ⟨#[]⟩, (s.size : Int)⟩ : S28)] = q := ⟨_, rfl⟩
        have HL6 := Aside0.mk hl6
        have HP6 := Aside0.mk (put_kept HX.out 9 ⟨#[]⟩ (s.size : Int) (by omega))
        unfold putP at HP6
        rw [hl6] at HP6
        clear hl6
        go_wp2_with (go_at_call 17; refine HP6.out.mono ?_; rintro e w6 ⟨rfl, v6, h6, k6⟩; have HX6 := Aside0.mk h6; obtain ⟨A6, c6, rfl⟩ := Kd.R_slice h6.r2; have e2 : w6.cell? ⟨g, 2, none⟩ = some (.slice A6 l6.length c6) := (blk_cell h6.b 2).trans rfl; clear h6 k6)
        refine bodyPost_ret (v := .tuple #[.slice A6 l6.length c6, .int .i64 0, .int .i64 0]) (by simp [results, Try.results9, go_sem]) rfl ?_
        unfold lexP
        rw [HL.out, if_neg (by have := HW.out; omega), HL6.out]
        exact ⟨_, rfl, HX6.out.r2, HX6.out.B⟩
      · have dw : decide (wn < 0) = false := decide_eq_false hw
        have d5 : decide ((0 : Int) ≤ wn) = true := decide_eq_true (by omega)
        have hwn : 0 ≤ wn := by omega
        have HW := Aside0.mk hwn
        clear hwn hw hg'
        go_wp2_with fail
        go_quiet (fail)
        go_wp2_with fail
        refine bodyPost_ret (v := .tuple #[.slice none 0 0, .int .i64 wn, .int .i64 24]) (by simp [results, Try.results9, go_sem]) rfl ?_
        unfold lexP
        rw [HL.out, if_pos HW.out]
        exact ⟨_, rfl, Kd.R_nil _ _ _ _ _, (HX.out.drawn ⟨⟨_, rfl⟩⟩).B⟩
theorem lex_calls (s : ByteArray) (r1 : List S28) (r2 r3 : Int) (w : World) (h : some (lexS s) = some (r1, r2, r3)) :
    Calls Try.prog 9 #[.string s] w fun e w' => ∃ v1_ : Value, e = .returned (.tuple #[v1_, .int .i64 r2, .int .i64 r3]) ∧ Kd.R k28 28 w' w.heap.size (fun _ => True) v1_ r1 ∧ Below w.heap.size w w' := by
  have h := Option.some.inj h
  have key : Calls Try.prog 9 #[.string s] w (lexP w s) := by
    rcases Nat.lt_or_ge 16384 s.size with h1 | h1
    · exact lex_long s w h1
    · exact lex_short s w h1
  unfold lexP at key
  rw [h] at key
  exact key
end Go.Proofs.Ytgenfggjonhmgaa.Lx
