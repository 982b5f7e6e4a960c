/- lex: a name, a number. Own work. -/
import Derived.Test.YtgenfggjonhmgaaLxP
namespace Go.Proofs.Ytgenfggjonhmgaa.Lx
set_option linter.unusedVariables false
set_option linter.unusedSimpArgs false
open Go.RowKit Go.Proofs.Ytgenfggjonhmgaa.Ml Go.Proofs.Ytgenfggjonhmgaa.PL Go.Proofs.YtgenfggjonhmgaaW.PrintWords Go.Proofs.YtgenfggjonhmgaaW.PrintLast Go.Proofs.YtgenfggjonhmgaaW.PrintMore
variable {w0 W : World} {g : Nat} {s : ByteArray} {i : Int} {v2 v3 : Value} {l : List S28} {m : List S42} {wr : Int}
theorem word_any (t : ByteArray) (w : World) : Calls Try.prog 32 #[.string t] w fun e w' => e = .returned (.bool (isWordB t)) ∧ Drawn0 w w' := by
  refine lex_isWord.calls t (isWordB t) w ?_
  unfold isWordB lex_isWord.f
  repeat' split
  all_goals rfl
theorem word_at (t : ByteArray) (b : Bool) (h : isWordB t = b) (w : World) : Calls Try.prog 32 #[.string t] w fun e w' => e = .returned (.bool b) ∧ Drawn0 w w' := h ▸ word_any t w
set_option maxHeartbeats 1000000 in
theorem name_any (k : Nat) (h : LXv w0 W g s (k : Int) v2 l v3 m wr) (hk : k ≤ s.size) (hs : s.size ≤ 1000000) (hl : l.length ≤ 1000000) (k' : Nat) (hk' : runTo isNam (bytesOf s) k = k') (hkl : k ≤ k' ∧ k' ≤ s.size) (b : Bool) (hb : isWordB (s.extract k k') = b) :
    Calls Try.prog 23 #[.pointer (some ⟨g, 0, none⟩)] W fun e w' => e = .returned (.tuple #[]) ∧ ∃ v, LXv w0 w' g s (k' : Int) v (l ++ [⟨if b = true then 3 else 2, s.extract k k', (k : Int)⟩]) v3 m wr := by
  have HH := Aside0.mk h
  have HW := Aside0.mk (while_name h k hk hs)
  rw [hk'] at HW
  have hc0 : W.cell? ⟨g, 0, none⟩ = some (.string s) := (blk_cell h.b 0).trans rfl
  have hc1 : W.cell? ⟨g, 1, none⟩ = some (.int .i64 (k : Int)) := (blk_cell h.b 1).trans rfl
  have hf1 := blk_frozen h.b 1
  have HB := Aside0.mk hb
  obtain ⟨h0, h1⟩ := hkl
  clear h hk' hb
  go_enter Try.func23, Try.ntmps23
  go_wp2_with (go_at_call 30; refine HW.out.mono ?_; rintro e w1 ⟨rfl, rfl⟩)
  have HH1 := Aside0.mk (HH.out.at_ (k' : Int))
  generalize (w1.setCell ⟨g, 1, none⟩ (.int .i64 (k' : Int))) = w2 at *
  have hc0 : w2.cell? ⟨g, 0, none⟩ = some (.string s) := (blk_cell HH1.out.b 0).trans rfl
  have hc1 : w2.cell? ⟨g, 1, none⟩ = some (.int .i64 (k' : Int)) := (blk_cell HH1.out.b 1).trans rfl
  have g1 : (k : Int) ≤ (k' : Int) := by omega
  have g2 : (k' : Int) ≤ (s.size : Int) := by omega
  go_quiet (fail)
  have HH2 := Aside0.mk (HH1.out.drawn ⟨⟨nq, rfl⟩⟩)
  generalize w2.drewN nq = w3 at *
  clear HH1 HH hc0 hc1 hf1
  cases b
  all_goals
    go_wp2_with (first | (go_at_call 32; refine (word_at _ _ HB.out _).mono ?_; rintro e w4 ⟨rfl, hd⟩; have HH3 := Aside0.mk (HH2.out.drawn hd); clear hd) | (go_at_call 17; refine (put_any HH3.out _ _ _ hl).mono ?_; rintro e w5 ⟨rfl, v, HH4⟩))
    go_end0
    exact ⟨rfl, v, HH4⟩
theorem letter_at (c : Int) (b : Bool) (h : isLet c = b) (w : World) : Calls Try.prog 22 #[.int .u8 c] w fun e w' => e = .returned (.bool b) ∧ w' = w := h ▸ letter_any c w
set_option maxHeartbeats 16000000 in
theorem number_lt (k : Nat) (h : LXv w0 W g s (k : Int) v2 l v3 m wr) (hk : k ≤ s.size) (hs : s.size ≤ 1000000) (hl : l.length ≤ 1000000) (k' : Nat) (hk' : runTo isDig (bytesOf s) k = k') (hkl : k < k' ∧ k' ≤ s.size) (t : ByteArray) (ht : s.extract k k' = t) (c0 : Int) (hc : (bytesOf t).getD 0 0 = c0) (nx : Bool) (hnx : (decide (k' < s.size) && isLet ((bytesOf s).getD k' 0)) = nx) (gr : Bool) (hgr : great t = gr) (hz : t.size < 19) (hgv : gr = false) :
    Calls Try.prog 25 #[.pointer (some ⟨g, 0, none⟩)] W fun e w' => e = .returned (.tuple #[]) ∧ (if gr = true ∨ (c0 = 48 ∧ 1 < t.size) ∨ nx = true then LXv w0 w' g s (k' : Int) v2 l v3 m (k : Int) else ∃ v, LXv w0 w' g s (k' : Int) v (l ++ [⟨1, t, (k : Int)⟩]) v3 m wr) := by
  obtain ⟨P, hP⟩ : ∃ P : World → Prop, (fun w' => if gr = true ∨ (c0 = 48 ∧ 1 < t.size) ∨ nx = true then LXv w0 w' g s (k' : Int) v2 l v3 m (k : Int) else ∃ v, LXv w0 w' g s (k' : Int) v (l ++ [⟨1, t, (k : Int)⟩]) v3 m wr) = P := ⟨_, rfl⟩
  have HP := Aside0.mk (fun w' => congrFun hP w')
  have hPP := congrArg (fun (Z : World → Prop) => Calls Try.prog 25 #[.pointer (some ⟨g, 0, none⟩)] W fun e w' => e = .returned (.tuple #[]) ∧ Z w') hP
  refine hPP.mpr ?_
  clear hPP hP
  have HZ := Aside0.mk hz
  clear hz
  have HH := Aside0.mk h
  have HW := Aside0.mk (while_digit h k hk hs)
  rw [hk'] at HW
  have hc0 : W.cell? ⟨g, 0, none⟩ = some (.string s) := (blk_cell h.b 0).trans rfl
  have hc1 : W.cell? ⟨g, 1, none⟩ = some (.int .i64 (k : Int)) := (blk_cell h.b 1).trans rfl
  have hf1 := blk_frozen h.b 1
  obtain ⟨h0, h1⟩ := hkl
  clear h hk'
  go_enter Try.func25, Try.ntmps25
  go_wp2_with (go_at_call 30; refine HW.out.mono ?_; rintro e w1 ⟨rfl, rfl⟩)
  have HH1 := Aside0.mk (HH.out.at_ (k' : Int))
  generalize (w1.setCell ⟨g, 1, none⟩ (.int .i64 (k' : Int))) = w2 at *
  have hc0 : w2.cell? ⟨g, 0, none⟩ = some (.string s) := (blk_cell HH1.out.b 0).trans rfl
  have hc1 : w2.cell? ⟨g, 1, none⟩ = some (.int .i64 (k' : Int)) := (blk_cell HH1.out.b 1).trans rfl
  have g1 : (k : Int) ≤ (k' : Int) := by omega
  have g2 : (k' : Int) ≤ (s.size : Int) := by omega
  go_quiet (fail)
  have HH2 := Aside0.mk (HH1.out.drawn ⟨⟨nq, rfl⟩⟩)
  generalize w2.drewN nq = w3 at *
  clear HH1 HH hc0 hc1 hf1
  have hc0 : w3.cell? ⟨g, 0, none⟩ = some (.string s) := (blk_cell HH2.out.b 0).trans rfl
  have hc1 : w3.cell? ⟨g, 1, none⟩ = some (.int .i64 (k' : Int)) := (blk_cell HH2.out.b 1).trans rfl
  have hts : t.size = k' - k := by rw [← ht, ByteArray.size_extract]; omega
  have ht0 : 0 < t.size := by omega
  have hx0 := (bytes_getD t 0 ht0).symm.trans hc
  have hx1 : ∀ h : k' < s.size, (s[k'].toNat : Int) = (bytesOf s).getD k' 0 := fun h => (bytes_getD s k' h).symm
  have HX1 := Aside0.mk hx1
  have HN := Aside0.mk hnx
  have HG := Aside0.mk hgr
  have hG : 19 = t.size → ∀ w, (binOp .gtr 9 (.string t) (.string ⟨#[57, 50, 50, 51, 51, 55, 50, 48, 51, 54, 56, 53, 52, 55, 55, 53, 56, 48, 55]⟩)).run Try.prog w = .ok (.bool gr) w := fun h w => by
    rw [← hgr]; unfold great mostInt
    simp [binOp, Op.stringOp, ← h]
  clear hts ht hc hx1 hnx hgr
  subst hgv
  have hz := HZ.out
  have z1 : decide ((19 : Int) < (t.size : Int)) = false := decide_eq_false (by omega)
  have z2 : ((t.size : Int) == 19) = false := by simp; omega
  go_upto_region 4 with fail
  by_cases h48 : c0 = 48
  · have q1 : (c0 == 48) = true := by simp [h48]
    by_cases hs1 : 1 < t.size
    · have q2 : decide ((1 : Int) < (t.size : Int)) = true := decide_eq_true (by omega)
      go_quiet (fail)
      have HH3 := Aside0.mk (HH2.out.drawn ⟨⟨nq, rfl⟩⟩)
      generalize w3.drewN nq = w4 at *
      go_wp2_with (go_at_call 18; refine (fails_any HH3.out _).mono ?_; rintro e w5 ⟨rfl, HH4⟩)
      first | go_end0 | ((try simp only [Exit.inBlock, Exit.then]); refine bodyPost_ret (results_none rfl _ _ _) rfl ?_)
      refine ⟨rfl, ?_⟩
      rw [← HP.out, if_pos (.inr (.inl ⟨h48, hs1⟩))]
      exact HH4
    · have q2 : decide ((1 : Int) < (t.size : Int)) = false := decide_eq_false (by omega)
      by_cases hkk : k' < s.size
      · have y1 : decide ((k' : Int) < (s.size : Int)) = true := decide_eq_true (by omega)
        have y2 := HX1.out hkk
        have y3 := HN.out
        rw [← y2, decide_eq_true hkk] at y3
        clear y2
        cases nx
        · have hlt : isLet (s[k'].toNat : Int) = false := by simpa using y3
          clear y3
          go_quiet ((go_at_call 22; exact Calls.quiet_of_same (letter_at _ _ hlt _)))
          have HH3 := Aside0.mk (HH2.out.drawn ⟨⟨nq, rfl⟩⟩)
          generalize w3.drewN nq = w4 at *
          go_wp2_with (go_at_call 17; refine (put_any HH3.out _ _ _ hl).mono ?_; rintro e w5 ⟨rfl, v, HH4⟩)
          first | go_end0 | ((try simp only [Exit.inBlock, Exit.then]); refine bodyPost_ret (results_none rfl _ _ _) rfl ?_)
          refine ⟨rfl, ?_⟩
          rw [← HP.out, if_neg (by rintro (h | h | h); exact Bool.noConfusion h; exact hs1 h.2; exact Bool.noConfusion h)]
          exact ⟨v, HH4⟩
        · have hlt : isLet (s[k'].toNat : Int) = true := by simpa using y3
          clear y3
          go_quiet ((go_at_call 22; exact Calls.quiet_of_same (letter_at _ _ hlt _)))
          have HH3 := Aside0.mk (HH2.out.drawn ⟨⟨nq, rfl⟩⟩)
          generalize w3.drewN nq = w4 at *
          go_wp2_with (go_at_call 18; refine (fails_any HH3.out _).mono ?_; rintro e w5 ⟨rfl, HH4⟩)
          first | go_end0 | ((try simp only [Exit.inBlock, Exit.then]); refine bodyPost_ret (results_none rfl _ _ _) rfl ?_)
          refine ⟨rfl, ?_⟩
          rw [← HP.out, if_pos (by simp)]
          exact HH4
      · have y1 : decide ((k' : Int) < (s.size : Int)) = false := decide_eq_false (by omega)
        have y3 := HN.out
        rw [decide_eq_false hkk, Bool.false_and] at y3
        subst y3
        go_quiet (fail)
        have HH3 := Aside0.mk (HH2.out.drawn ⟨⟨nq, rfl⟩⟩)
        generalize w3.drewN nq = w4 at *
        go_wp2_with (go_at_call 17; refine (put_any HH3.out _ _ _ hl).mono ?_; rintro e w5 ⟨rfl, v, HH4⟩)
        first | go_end0 | ((try simp only [Exit.inBlock, Exit.then]); refine bodyPost_ret (results_none rfl _ _ _) rfl ?_)
        refine ⟨rfl, ?_⟩
        rw [← HP.out, if_neg (by rintro (h | h | h); exact Bool.noConfusion h; exact hs1 h.2; exact Bool.noConfusion h)]
        exact ⟨v, HH4⟩
  · have q1 : (c0 == 48) = false := by simp [h48]
    by_cases hkk : k' < s.size
    · have y1 : decide ((k' : Int) < (s.size : Int)) = true := decide_eq_true (by omega)
      have y2 := HX1.out hkk
      have y3 := HN.out
      rw [← y2, decide_eq_true hkk] at y3
      clear y2
      cases nx
      · have hlt : isLet (s[k'].toNat : Int) = false := by simpa using y3
        clear y3
        go_quiet ((go_at_call 22; exact Calls.quiet_of_same (letter_at _ _ hlt _)))
        have HH3 := Aside0.mk (HH2.out.drawn ⟨⟨nq, rfl⟩⟩)
        generalize w3.drewN nq = w4 at *
        go_wp2_with (go_at_call 17; refine (put_any HH3.out _ _ _ hl).mono ?_; rintro e w5 ⟨rfl, v, HH4⟩)
        first | go_end0 | ((try simp only [Exit.inBlock, Exit.then]); refine bodyPost_ret (results_none rfl _ _ _) rfl ?_)
        refine ⟨rfl, ?_⟩
        rw [← HP.out, if_neg (by rintro (h | h | h); exact Bool.noConfusion h; exact h48 h.1; exact Bool.noConfusion h)]
        exact ⟨v, HH4⟩
      · have hlt : isLet (s[k'].toNat : Int) = true := by simpa using y3
        clear y3
        go_quiet ((go_at_call 22; exact Calls.quiet_of_same (letter_at _ _ hlt _)))
        have HH3 := Aside0.mk (HH2.out.drawn ⟨⟨nq, rfl⟩⟩)
        generalize w3.drewN nq = w4 at *
        go_wp2_with (go_at_call 18; refine (fails_any HH3.out _).mono ?_; rintro e w5 ⟨rfl, HH4⟩)
        first | go_end0 | ((try simp only [Exit.inBlock, Exit.then]); refine bodyPost_ret (results_none rfl _ _ _) rfl ?_)
        refine ⟨rfl, ?_⟩
        rw [← HP.out, if_pos (by simp)]
        exact HH4
    · have y1 : decide ((k' : Int) < (s.size : Int)) = false := decide_eq_false (by omega)
      have y3 := HN.out
      rw [decide_eq_false hkk, Bool.false_and] at y3
      subst y3
      go_quiet (fail)
      have HH3 := Aside0.mk (HH2.out.drawn ⟨⟨nq, rfl⟩⟩)
      generalize w3.drewN nq = w4 at *
      go_wp2_with (go_at_call 17; refine (put_any HH3.out _ _ _ hl).mono ?_; rintro e w5 ⟨rfl, v, HH4⟩)
      first | go_end0 | ((try simp only [Exit.inBlock, Exit.then]); refine bodyPost_ret (results_none rfl _ _ _) rfl ?_)
      refine ⟨rfl, ?_⟩
      rw [← HP.out, if_neg (by rintro (h | h | h); exact Bool.noConfusion h; exact h48 h.1; exact Bool.noConfusion h)]
      exact ⟨v, HH4⟩
end Go.Proofs.Ytgenfggjonhmgaa.Lx
