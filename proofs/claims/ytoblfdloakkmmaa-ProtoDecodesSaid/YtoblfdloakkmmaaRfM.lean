/- pantryref26: Decode and DecodeReply in whole; the law ProtoDecodes walked. Own work. -/
import Derived.Test.YtoblfdloakkmmaaRfL
import Derived.Test.YtoblfdloakkmmaaRdM
import Derived.Test.YtoblfdloakkmmaaMp6
import Derived.Outline
namespace Go.Proofs.Ytoblfdloakkmmaa.Rf
set_option linter.unusedVariables false
set_option linter.unusedSimpArgs false
open Go.RowKit Go.Proofs.Ytoblfdloakkmmaa.Mp Go.Proofs.Ytoblfdloakkmmaa.PL Go.Proofs.Ytoblfdloakkmmaa.Rd Go.Proofs.YtoblfdloakkmmaaW.PrintWords Go.Proofs.YtoblfdloakkmmaaW.PrintLast Go.Proofs.YtoblfdloakkmmaaW.PrintMore
theorem wrap_is (n : Int) : IntKind.i64.wrap n = wrap64 n := by
  rw [IntKind.wrap_i64]; unfold wrap64; rfl
theorem V8 {l : List Int} (hb : B8 l) (bad : Bool) : V (tk l bad 8).1 < 18446744073709551616 := by
  have h1 := V_lt (tk_B8 hb bad 8).1
  have h2 : 256 ^ (tk l bad 8).1.length ≤ 256 ^ 8 := Nat.pow_le_pow_right (by decide) (tk_len l bad 8).1
  omega
theorem rep_eq (p : List Int) (hp : p.length ≤ 4194304) (hB : B8 p) : (refRep p).1 = (repBody p).1 ∧ ((repBody p).1 = false → (refRep p).2.1 = (((repBody p).2.1 : Nat) : Int) ∧ (refRep p).2.2 = (repBody p).2.2) := by
  have hE := r8_eq p false
  have hk1 := (rk_tk p false 8).1
  have hv := V8 hB false
  have hl1 := (tk_len p false 8).2
  unfold refRep repBody
  simp only
  rw [hk1]
  generalize V (tk p false 8).1 = v at *
  generalize r8 p false = E at *
  obtain ⟨l1, b1, hs1⟩ : ∃ a b, (tk p false 8).2 = (a, b) := ⟨_, _, rfl⟩
  rw [hs1] at hE hl1 ⊢
  simp only at hE hl1 ⊢
  have hN := r8_eq l1 b1
  have hk2 := (rk_tk l1 b1 8).1
  have hl2 := (tk_len l1 b1 8).2
  rw [hk2]
  generalize V (tk l1 b1 8).1 = v2 at *
  generalize r8 l1 b1 = N at *
  obtain ⟨l2, b2, hs2⟩ : ∃ a b, (tk l1 b1 8).2 = (a, b) := ⟨_, _, rfl⟩
  have hb12 : b1 = true → b2 = true := by
    intro h; subst h
    rw [tk_true] at hs2
    exact (Prod.ext_iff.1 hs2).2.symm
  rw [hs2] at hN hl2 ⊢
  simp only at hN hl2 ⊢
  obtain ⟨-, u1, u2⟩ := up_of l2 b2 1024
  have hk3 := (rk_tk l2 b2 4).1
  have hl3 := (tk_len l2 b2 4).2
  rw [hk3]
  by_cases hc : 1024 < r4 l2 b2
  · rw [if_pos (Or.inr (Or.inr hc)), u1 hc, tl_true, tx_true]
    exact ⟨rfl, fun h => by cases h⟩
  · rw [(u2 hc).1, (u2 hc).2, etl_tl _ _ _ (by omega)]
    have hb23 : b2 = true → (tk l2 b2 4).2.2 = true := by intro h; subst h; rw [tk_true]
    have hl4 := tl_len (r4 l2 b2) (tk l2 b2 4).2.1 (tk l2 b2 4).2.2
    have hb34 : (tk l2 b2 4).2.2 = true → (tl (r4 l2 b2) (tk l2 b2 4).2.1 (tk l2 b2 4).2.2).2.2 = true := by intro h; rw [h, tl_true]
    generalize tl (r4 l2 b2) (tk l2 b2 4).2.1 (tk l2 b2 4).2.2 = T at *
    rw [rt_tx T.2.1 T.2.2 (by omega)]
    have hb45 : T.2.2 = true → (tx T.2.1 T.2.2).2.2 = true := by intro h; rw [h, tx_true]
    have hb15 : b2 = true → (tx T.2.1 T.2.2).2.2 = true := fun h => hb45 (hb34 (hb23 h))
    generalize tx T.2.1 T.2.2 = t at *
    clear hb23 hb34 hb45 u1 u2
    by_cases hE9 : E < 0 ∨ 100 < E
    · have hbE : ¬ b1 = true := by intro h; rw [if_pos h] at hE; omega
      rw [if_neg hbE, wrap_is] at hE
      have hv9 : 100 < v := by unfold wrap64 at hE; omega
      rw [if_pos (by omega), decide_eq_true hv9, Bool.or_true]
      exact ⟨rfl, fun h => by cases h⟩
    · rw [if_neg (by omega)]
      simp only
      by_cases ht : (t.2.2 || decide (0 < t.2.1.length)) = true
      · rw [ht, Bool.true_or]
        exact ⟨rfl, fun h => by cases h⟩
      · have ht' : (t.2.2 || decide (0 < t.2.1.length)) = false := by simpa using ht
        have ht2 : ¬ t.2.2 = true := by intro h; rw [h, Bool.true_or] at ht'; cases ht'
        have hb2' : ¬ b2 = true := fun h => ht2 (hb15 h)
        have hb1' : ¬ b1 = true := fun h => hb2' (hb12 h)
        rw [if_neg hb1', wrap_is] at hE
        rw [if_neg hb2', wrap_is] at hN
        have hEv : E = (v : Int) := by unfold wrap64 at hE; omega
        rw [ht', decide_eq_false (show ¬ 100 < v by omega)]
        refine ⟨rfl, fun _ => ⟨hEv, ?_⟩⟩
        rw [hN]
theorem err_out2 {w : World} {A : Option Addr} {c : Nat} {l : List Int} {e : Int} (h : Calls Try.prog 17 #[.slice A l.length c] w fun e_ w' => e_ = .returned (.tuple #[.agg #[.int .i64 0, .slice none 0 0, .slice none 0 0], .int .i64 0, .int .i64 e]) ∧ Below w.heap.size w w') :
    Calls Try.prog 17 #[.slice A l.length c] w fun e_ w' => ∃ v1 v2 : Value, e_ = .returned (.tuple #[.agg #[.int .i64 0, v1, v2], .int .i64 0, .int .i64 e]) ∧ Kd.R (Kd.int .i64) 3 w' w.heap.size (fun _ => True) v1 [] ∧ Kd.R Kd.string 9 w' w.heap.size (fun _ => True) v2 [] ∧ Below w.heap.size w w' :=
  h.mono fun _ _ h => ⟨_, _, h.1, Kd.R_nil _ _ _ _ _, Kd.R_nil _ _ _ _ _, h.2⟩
theorem is30_of {k : Int} (h : is30 k = true) : 1 ≤ k ∧ k ≤ 100 := by unfold is30 at h; simpa using h
theorem is30_not {k : Int} (h : is30 k = false) : ¬ (1 ≤ k ∧ k ≤ 100) := by unfold is30 at h; simpa using h
theorem refdec_any (w : World) (A : Option Addr) (c : Nat) (l : List Int) (hc : l.length ≤ c) (hC : (Kd.int .u8).C w A l.length l) (hb : B8 l) (hlm : l.length ≤ 4194304) :
    Calls Try.prog 17 #[.slice A l.length c] w fun e_ w' => ∃ v1 v2 : Value, e_ = .returned (.tuple #[.agg #[.int .i64 (decAll l).1, v1, v2], .int .i64 (decAll l).2.2.2.1, .int .i64 (decAll l).2.2.2.2]) ∧ Kd.R (Kd.int .i64) 3 w' w.heap.size (fun _ => True) v1 (decAll l).2.1 ∧ Kd.R Kd.string 9 w' w.heap.size (fun _ => True) v2 (decAll l).2.2.1 ∧ Below w.heap.size w w' := by
  have hC2 := Kd.C_below hC (below_alloc (Below.refl _ w) (.cells #[.int .i64 0, .slice none 0 0, .slice none 0 0] 33))
  have hbody : B8 ((l.take (8 + hl l)).drop 8) := (hb.take _).drop _
  have hbl : ((l.take (8 + hl l)).drop 8).length ≤ 4194304 := by rw [List.length_drop, List.length_take]; omega
  by_cases h1 : l.length < 8
  · have ht : decAll l = (0, [], [], 0, 2) := by unfold decAll; rw [if_pos h1]
    rw [ht]
    exact err_out2 (ref_dec_err w A c l 2 (by decide) (rop_short _ A c l h1))
  · by_cases h2 : l.take 3 ≠ [80, 68, 1]
    · have ht : decAll l = (0, [], [], 0, 3) := by unfold decAll; rw [if_neg h1, if_pos h2]
      rw [ht]
      exact err_out2 (ref_dec_err w A c l 3 (by decide) (rop_form1 _ A c l (by omega) hc hC2 hb h2))
    · have h2' : l.take 3 = [80, 68, 1] := Classical.not_not.1 h2
      by_cases h3 : is30 (rd l 3) = false
      · have ht : decAll l = (0, [], [], 0, 3) := by unfold decAll; rw [if_neg h1, if_neg h2, if_pos h3]
        rw [ht]
        exact err_out2 (ref_dec_err w A c l 3 (by decide) (rop_form2 _ A c l (by omega) hc hC2 hb h2' (is30_not h3)))
      · have h3' : is30 (rd l 3) = true := by simpa using h3
        by_cases h4 : 4194304 < hl l
        · have ht : decAll l = (0, [], [], 0, 5) := by unfold decAll; rw [if_neg h1, if_neg h2, if_neg h3, if_pos h4]
          rw [ht]
          exact err_out2 (ref_dec_err w A c l 5 (by decide) (rop_long _ A c l (by omega) hc hC2 hb h2' (is30_of h3') h4))
        · by_cases h5 : l.length < 8 + hl l
          · have ht : decAll l = (0, [], [], 0, 2) := by unfold decAll; rw [if_neg h1, if_neg h2, if_neg h3, if_neg h4, if_pos h5]
            rw [ht]
            exact err_out2 (ref_dec_err w A c l 2 (by decide) (rop_cut _ A c l (by omega) hc hC2 hb h2' (is30_of h3') (Nat.le_of_not_lt h4) h5))
          · have hO := ref_dec_ok w A c l (rd l 3) ((8 + hl l : Nat) : Int) ((l.take (8 + hl l)).drop 8) hbody (rop_ok _ A c l (by omega) hc hC2 hb h2' (is30_of h3') (Nat.le_of_not_lt h4) (Nat.le_of_not_lt h5) _ rfl)
            obtain ⟨e1, e2⟩ := body_eq ((l.take (8 + hl l)).drop 8) hbl
            by_cases h6 : (decBody ((l.take (8 + hl l)).drop 8)).1 = true
            · have ht : decAll l = (0, [], [], 0, 3) := by unfold decAll; rw [if_neg h1, if_neg h2, if_neg h3, if_neg h4, if_neg h5, if_pos h6]
              rw [ht]
              refine err_out2 (hO.mono ?_)
              intro e w' h
              unfold refPost at h
              rw [e1, if_pos h6] at h
              exact h
            · have ht : decAll l = (rd l 3, (decBody ((l.take (8 + hl l)).drop 8)).2.1, (decBody ((l.take (8 + hl l)).drop 8)).2.2, ((8 + hl l : Nat) : Int), 0) := by unfold decAll; rw [if_neg h1, if_neg h2, if_neg h3, if_neg h4, if_neg h5, if_neg h6]
              rw [ht]
              refine hO.mono ?_
              intro e w' h
              unfold refPost at h
              rw [e2 (by simpa using h6), if_neg h6] at h
              obtain ⟨v1, v2, h1, h2, h3, h4⟩ := h
              exact ⟨v1, v2, h1, h2, h3, h4⟩
theorem rep_out2 {w : World} {A : Option Addr} {c : Nat} {l : List Int} {e : Int} (h : Calls Try.prog 19 #[.slice A l.length c] w fun e_ w' => e_ = .returned (.tuple #[.agg #[.int .i64 0, .slice none 0 0, .string ⟨#[]⟩, .int .i64 0], .int .i64 0, .int .i64 e]) ∧ Below w.heap.size w w') :
    Calls Try.prog 19 #[.slice A l.length c] w fun e_ w' => ∃ v1 : Value, e_ = .returned (.tuple #[.agg #[.int .i64 0, v1, .string ⟨#[]⟩, .int .i64 0], .int .i64 0, .int .i64 e]) ∧ Kd.R Kd.string 55 w' w.heap.size (fun _ => True) v1 [] ∧ Below w.heap.size w w' :=
  h.mono fun _ _ h => ⟨_, h.1, Kd.R_nil _ _ _ _ _, h.2⟩
theorem is38_of {k : Int} (h : is38 k = true) : k = 200 := by unfold is38 at h; simpa using h
theorem is38_not {k : Int} (h : is38 k = false) : ¬ k = 200 := by unfold is38 at h; simpa using h
theorem refrep_any (w : World) (A : Option Addr) (c : Nat) (l : List Int) (hc : l.length ≤ c) (hC : (Kd.int .u8).C w A l.length l) (hb : B8 l) (hlm : l.length ≤ 4194304) :
    Calls Try.prog 19 #[.slice A l.length c] w fun e_ w' => ∃ v1 : Value, e_ = .returned (.tuple #[.agg #[.int .i64 (repAll l).1, v1, .string (repAll l).2.2.1, .int .i64 (repAll l).2.2.2.1], .int .i64 (repAll l).2.2.2.2.1, .int .i64 (repAll l).2.2.2.2.2]) ∧ Kd.R Kd.string 55 w' w.heap.size (fun _ => True) v1 (repAll l).2.1 ∧ Below w.heap.size w w' := by
  have hC2 := Kd.C_below hC (below_alloc (Below.refl _ w) z48)
  have hbody : B8 ((l.take (8 + hl l)).drop 8) := (hb.take _).drop _
  have hbl : ((l.take (8 + hl l)).drop 8).length ≤ 4194304 := by rw [List.length_drop, List.length_take]; omega
  by_cases h1 : l.length < 8
  · have ht : repAll l = (0, [], ⟨#[]⟩, 0, 0, 2) := by unfold repAll; rw [if_pos h1]
    rw [ht]
    exact rep_out2 (ref_rep_err w A c l 2 (by decide) (rrp_short _ A c l h1))
  · by_cases h2 : l.take 3 ≠ [80, 68, 1]
    · have ht : repAll l = (0, [], ⟨#[]⟩, 0, 0, 3) := by unfold repAll; rw [if_neg h1, if_pos h2]
      rw [ht]
      exact rep_out2 (ref_rep_err w A c l 3 (by decide) (rrp_form1 _ A c l (by omega) hc hC2 hb h2))
    · have h2' : l.take 3 = [80, 68, 1] := Classical.not_not.1 h2
      by_cases h3 : is38 (rd l 3) = false
      · have ht : repAll l = (0, [], ⟨#[]⟩, 0, 0, 3) := by unfold repAll; rw [if_neg h1, if_neg h2, if_pos h3]
        rw [ht]
        exact rep_out2 (ref_rep_err w A c l 3 (by decide) (rrp_form2 _ A c l (by omega) hc hC2 hb h2' (is38_not h3)))
      · have h3' : is38 (rd l 3) = true := by simpa using h3
        by_cases h4 : 4194304 < hl l
        · have ht : repAll l = (0, [], ⟨#[]⟩, 0, 0, 5) := by unfold repAll; rw [if_neg h1, if_neg h2, if_neg h3, if_pos h4]
          rw [ht]
          exact rep_out2 (ref_rep_err w A c l 5 (by decide) (rrp_long _ A c l (by omega) hc hC2 hb h2' (is38_of h3') h4))
        · by_cases h5 : l.length < 8 + hl l
          · have ht : repAll l = (0, [], ⟨#[]⟩, 0, 0, 2) := by unfold repAll; rw [if_neg h1, if_neg h2, if_neg h3, if_neg h4, if_pos h5]
            rw [ht]
            exact rep_out2 (ref_rep_err w A c l 2 (by decide) (rrp_cut _ A c l (by omega) hc hC2 hb h2' (is38_of h3') (Nat.le_of_not_lt h4) h5))
          · have hO := ref_rep_ok w A c l (rd l 3) ((8 + hl l : Nat) : Int) ((l.take (8 + hl l)).drop 8) hbody (rrp_ok _ A c l (by omega) hc hC2 hb h2' (is38_of h3') (Nat.le_of_not_lt h4) (Nat.le_of_not_lt h5) _ rfl)
            obtain ⟨e1, e2⟩ := rep_eq ((l.take (8 + hl l)).drop 8) hbl hbody
            by_cases h6 : (repBody ((l.take (8 + hl l)).drop 8)).1 = true
            · have ht : repAll l = (0, [], ⟨#[]⟩, 0, 0, 3) := by unfold repAll; rw [if_neg h1, if_neg h2, if_neg h3, if_neg h4, if_neg h5, if_pos h6]
              rw [ht]
              refine rep_out2 (hO.mono ?_)
              intro e w' h
              unfold refRPost at h
              rw [e1, if_pos h6] at h
              exact h
            · have ht : repAll l = ((((repBody ((l.take (8 + hl l)).drop 8)).2.1 : Nat) : Int), (repBody ((l.take (8 + hl l)).drop 8)).2.2.2.1, (repBody ((l.take (8 + hl l)).drop 8)).2.2.2.2, (repBody ((l.take (8 + hl l)).drop 8)).2.2.1, ((8 + hl l : Nat) : Int), 0) := by unfold repAll; rw [if_neg h1, if_neg h2, if_neg h3, if_neg h4, if_neg h5, if_neg h6]
              rw [ht]
              obtain ⟨e3, e4⟩ := e2 (by simpa using h6)
              refine hO.mono ?_
              intro e w' h
              unfold refRPost at h
              rw [e1, if_neg h6, e3, e4] at h
              obtain ⟨v1, h1, h2, h3⟩ := h
              exact ⟨v1, h1, h2, h3⟩
/-- short bytes in whole -/
def b8s (l : List Int) : Bool := b8 l && decide (l.length ≤ 4194304)
theorem b8s_of {l : List Int} (h : b8s l = true) : B8 l ∧ l.length ≤ 4194304 := by
  unfold b8s at h
  rw [Bool.and_eq_true, decide_eq_true_eq] at h
  exact ⟨(b8_of h.1).1, h.2⟩
/-- the reference's Decode, as the print's callers want it -/
def refF (l : List Int) : Option (Int × List Int × List ByteArray × Int × Int) := if b8s l = true then some (decAll l) else none
theorem refF_calls (A0 : Option Addr) (c0 : Nat) (l0 : List Int) (r1 : Int) (r2 : List Int) (r3 : List ByteArray) (r4 r5 : Int) (w : World) (hr0 : Kd.C (Kd.int .u8) w A0 l0.length l0) (hc0 : l0.length ≤ c0) (h : refF l0 = some (r1, r2, r3, r4, r5)) :
    Calls Try.prog 17 #[.slice A0 l0.length c0] w fun e w' => ∃ v1_ v2_ : Value, e = .returned (.tuple #[.agg #[.int .i64 r1, v1_, v2_], .int .i64 r4, .int .i64 r5]) ∧ Kd.R (Kd.int .i64) 3 w' w.heap.size (fun _ => True) v1_ r2 ∧ Kd.R Kd.string 9 w' w.heap.size (fun _ => True) v2_ r3 ∧ Below w.heap.size w w' := by
  unfold refF at h
  by_cases hb : b8s l0 = true
  · rw [if_pos hb] at h
    obtain ⟨hb1, hb2⟩ := b8s_of hb
    have h' := refdec_any w A0 c0 l0 hc0 hr0 hb1 hb2
    rw [Option.some.inj h] at h'
    exact h'
  · rw [if_neg hb] at h
    cases h
/-- the reference's DecodeReply -/
def refRF (l : List Int) : Option (Int × List ByteArray × ByteArray × Int × Int × Int) := if b8s l = true then some (repAll l) else none
theorem refRF_calls (A0 : Option Addr) (c0 : Nat) (l0 : List Int) (r1 : Int) (r2 : List ByteArray) (r3 : ByteArray) (r4 r5 r6 : Int) (w : World) (hr0 : Kd.C (Kd.int .u8) w A0 l0.length l0) (hc0 : l0.length ≤ c0) (h : refRF l0 = some (r1, r2, r3, r4, r5, r6)) :
    Calls Try.prog 19 #[.slice A0 l0.length c0] w fun e w' => ∃ v1_ : Value, e = .returned (.tuple #[.agg #[.int .i64 r1, v1_, .string r3, .int .i64 r4], .int .i64 r5, .int .i64 r6]) ∧ Kd.R Kd.string 55 w' w.heap.size (fun _ => True) v1_ r2 ∧ Below w.heap.size w w' := by
  unfold refRF at h
  by_cases hb : b8s l0 = true
  · rw [if_pos hb] at h
    obtain ⟨hb1, hb2⟩ := b8s_of hb
    have h' := refrep_any w A0 c0 l0 hc0 hr0 hb1 hb2
    rw [Option.some.inj h] at h'
    exact h'
  · rw [if_neg hb] at h
    cases h
end Go.Proofs.Ytoblfdloakkmmaa.Rf
namespace Go.Proofs.Ytoblfdloakkmmaa.Rf
set_option linter.unusedVariables false
set_option linter.unusedSimpArgs false
open Go.RowKit Go.Proofs.Ytoblfdloakkmmaa.Mp Go.Proofs.Ytoblfdloakkmmaa.PL Go.Proofs.Ytoblfdloakkmmaa.Rd Go.Proofs.YtoblfdloakkmmaaW.PrintWords Go.Proofs.YtoblfdloakkmmaaW.PrintLast Go.Proofs.YtoblfdloakkmmaaW.PrintMore
theorem decodes_long (A : Option Addr) (c : Nat) (l : List Int) (w : World) (hl : 6000 < l.length) :
    Calls Try.prog 7 #[.slice A l.length c] w fun e w' => e = .returned (.bool true) ∧ Below w.heap.size w w' := by
  have hl' : (6000 : Int) < (l.length : Int) := by omega
  go_enter Try.func7, Try.ntmps7
  go_wp2_with fail
  go_ret
  exact ⟨rfl, Below.refl _ _⟩
set_option maxHeartbeats 1000000 in
theorem decodes_short (k : Nat) (A : Option Addr) (c : Nat) (l : List Int) (w : World) (hC : (Kd.int .u8).C w A l.length l) (hc : l.length ≤ c) (hl : ¬ 6000 < l.length)
    (hR : pantrylaw26_roomy.f l = some (l ++ [171]))
    (a n e : Int) (ns : List Int) (ts : List ByteArray) (hD : decF l = some (a, ns, ts, n, e)) (hD2 : refF l = some (a, ns, ts, n, e))
    (E N n2 e2 : Int) (ps : List ByteArray) (t : ByteArray) (hP : repF l = some (E, ps, t, N, n2, e2)) (hP2 : refRF l = some (E, ps, t, N, n2, e2))
    (hw1 : wrap64 e = e) (hw2 : wrap64 e2 = e2)
    (hO : pantrylaw26_ops.f k a ns ts a ns ts = some true) (hQ : pantrylaw26_replies.f k E ps t N E ps t N = some true)
    (hS : pantrylaw26_stands.f k (l ++ [171]) l = some true) (hK : pantrylaw26_known.f k = some true) :
    Calls Try.prog 7 #[.slice A l.length c] w fun e w' => e = .returned (.bool true) ∧ Below w.heap.size w w' := by
  have hl' : ¬ (6000 : Int) < (l.length : Int) := by omega
  have HC := Aside0.mk hC
  have HR := Aside0.mk (pantrylaw26_roomy.calls A c l _ w hC hc hR)
  have HO := Aside0.mk hO
  have HQ := Aside0.mk hQ
  have HS := Aside0.mk hS
  have HK := Aside0.mk hK
  have HD := Aside0.mk hD
  have HD2 := Aside0.mk hD2
  have HP := Aside0.mk hP
  have HP2 := Aside0.mk hP2
  clear hC hR hO hQ hS hK hD hD2 hP hP2
  go_enter Try.func7, Try.ntmps7
  go_wp2_with fail
  refine HR.out.mono ?_
  rintro e_ w1 ⟨v, rfl, hr, hb⟩
  obtain ⟨A9, c9, rfl⟩ := Kd.R_slice hr
  have HR9 := Aside0.mk (Kd.R_reads' hr)
  have HB1 := Aside0.mk hb
  have hle : (l ++ [171]).length = l.length + 1 := by simp
  have hxc : l.length ≤ c9 := Nat.le_trans (by omega) (Kd.R_reads' hr).2.1
  have HC1 : Aside0 ((Kd.int .u8).C w1 A9 l.length l) := ⟨by
    have h9 := Kd.C_of_reads (h1 := fun _ => rfl) ((Kd.reads_of_C (d := (0 : Int)) (Kd.R_reads' hr).2.2).take_ l.length (by omega))
    rwa [List.take_left'] at h9
    rfl⟩
  clear hr hb HR
  go_wp2_with fail
  refine (decF_calls A9 c9 l a ns ts n e w1 HC1.out hxc HD.out).mono ?_
  rintro e_ w2 ⟨v1, v2, rfl, hr1, hr2, hb⟩
  obtain ⟨B1, d1, rfl⟩ := Kd.R_slice hr1
  obtain ⟨B2, d2, rfl⟩ := Kd.R_slice hr2
  have HO1 := Aside0.mk (Kd.C_alloc (Kd.R_reads' hr1).2.2 (.cells #[.int .i64 a, .slice B1 ns.length d1, .slice B2 ts.length d2] 26))
  have HO2 := Aside0.mk (Kd.C_alloc (Kd.R_reads' hr2).2.2 (.cells #[.int .i64 a, .slice B1 ns.length d1, .slice B2 ts.length d2] 26))
  have hd1 : ns.length ≤ d1 := (Kd.R_reads' hr1).2.1
  have hd2 : ts.length ≤ d2 := (Kd.R_reads' hr2).2.1
  have HB2 := Aside0.mk (below_alloc hb (.cells #[.int .i64 a, .slice B1 ns.length d1, .slice B2 ts.length d2] 26))
  have HG2 : Aside0 ((w2.alloc (.cells #[.int .i64 a, .slice B1 ns.length d1, .slice B2 ts.length d2] 26)).heap[w2.heap.size]? = some (.cells #[.int .i64 a, .slice B1 ns.length d1, .slice B2 ts.length d2] 26 (0, 0)) ∧ w2.heap.size < (w2.alloc (.cells #[.int .i64 a, .slice B1 ns.length d1, .slice B2 ts.length d2] 26)).heap.size) := ⟨heap_alloc_new w2 _, by simp⟩
  clear hr1 hr2 hb
  go_wp2_with fail
  generalize (w2.alloc (.cells #[.int .i64 a, .slice B1 ns.length d1, .slice B2 ts.length d2] 26)) = u2 at *
  generalize w2.heap.size = p2 at *
  have HW2 : Aside0 (Below w.heap.size w u2) := ⟨below_then HB1.out HB1.out.size HB2.out⟩
  refine (refF_calls A c l a ns ts n e u2 (Kd.C_below HC.out HW2.out) hc HD2.out).mono ?_
  rintro e_ w3 ⟨v1, v2, rfl, hr1, hr2, hb⟩
  obtain ⟨D1, g1, rfl⟩ := Kd.R_slice hr1
  obtain ⟨D2, g2, rfl⟩ := Kd.R_slice hr2
  have HO3 := Aside0.mk (Kd.C_alloc (Kd.R_reads' hr1).2.2 (.cells #[.int .i64 a, .slice D1 ns.length g1, .slice D2 ts.length g2] 33))
  have HO4 := Aside0.mk (Kd.C_alloc (Kd.R_reads' hr2).2.2 (.cells #[.int .i64 a, .slice D1 ns.length g1, .slice D2 ts.length g2] 33))
  have hg1 : ns.length ≤ g1 := (Kd.R_reads' hr1).2.1
  have hg2 : ts.length ≤ g2 := (Kd.R_reads' hr2).2.1
  have HB3 := Aside0.mk (below_alloc hb (.cells #[.int .i64 a, .slice D1 ns.length g1, .slice D2 ts.length g2] 33))
  have HG3 : Aside0 ((w3.alloc (.cells #[.int .i64 a, .slice D1 ns.length g1, .slice D2 ts.length g2] 33)).heap[w3.heap.size]? = some (.cells #[.int .i64 a, .slice D1 ns.length g1, .slice D2 ts.length g2] 33 (0, 0)) ∧ w3.heap.size < (w3.alloc (.cells #[.int .i64 a, .slice D1 ns.length g1, .slice D2 ts.length g2] 33)).heap.size) := ⟨heap_alloc_new w3 _, by simp⟩
  clear hr1 hr2 hb
  go_wp2_with fail
  generalize (w3.alloc (.cells #[.int .i64 a, .slice D1 ns.length g1, .slice D2 ts.length g2] 33)) = u3 at *
  generalize w3.heap.size = p3 at *
  have HW13 : Aside0 (Below w1.heap.size w1 u3) := ⟨below_then HB2.out HB2.out.size HB3.out⟩
  have HW3 : Aside0 (Below w.heap.size w u3) := ⟨below_then HW2.out HW2.out.size HB3.out⟩
  refine (repF_calls A9 c9 l E ps t N n2 e2 u3 (Kd.C_below HC1.out HW13.out) hxc HP.out).mono ?_
  rintro e_ w4 ⟨v1, rfl, hr1, hb⟩
  obtain ⟨F1, f1, rfl⟩ := Kd.R_slice hr1
  have HO5 := Aside0.mk (Kd.C_alloc (Kd.R_reads' hr1).2.2 (.cells #[.int .i64 E, .slice F1 ps.length f1, .string t, .int .i64 N] 48))
  have hf1 : ps.length ≤ f1 := (Kd.R_reads' hr1).2.1
  have HB4 := Aside0.mk (below_alloc hb (.cells #[.int .i64 E, .slice F1 ps.length f1, .string t, .int .i64 N] 48))
  have HG4 : Aside0 ((w4.alloc (.cells #[.int .i64 E, .slice F1 ps.length f1, .string t, .int .i64 N] 48)).heap[w4.heap.size]? = some (.cells #[.int .i64 E, .slice F1 ps.length f1, .string t, .int .i64 N] 48 (0, 0)) ∧ w4.heap.size < (w4.alloc (.cells #[.int .i64 E, .slice F1 ps.length f1, .string t, .int .i64 N] 48)).heap.size) := ⟨heap_alloc_new w4 _, by simp⟩
  clear hr1 hb
  go_wp2_with fail
  generalize (w4.alloc (.cells #[.int .i64 E, .slice F1 ps.length f1, .string t, .int .i64 N] 48)) = u4 at *
  generalize w4.heap.size = p4 at *
  have HW4 : Aside0 (Below w.heap.size w u4) := ⟨below_then HW3.out HW3.out.size HB4.out⟩
  refine (refRF_calls A c l E ps t N n2 e2 u4 (Kd.C_below HC.out HW4.out) hc HP2.out).mono ?_
  rintro e_ w5 ⟨v1, rfl, hr1, hb⟩
  obtain ⟨F2, f2, rfl⟩ := Kd.R_slice hr1
  have HO6 := Aside0.mk (Kd.C_alloc (Kd.R_reads' hr1).2.2 (.cells #[.int .i64 E, .slice F2 ps.length f2, .string t, .int .i64 N] 48))
  have hf2 : ps.length ≤ f2 := (Kd.R_reads' hr1).2.1
  have HB5 := Aside0.mk (below_alloc hb (.cells #[.int .i64 E, .slice F2 ps.length f2, .string t, .int .i64 N] 48))
  have HG5 : Aside0 ((w5.alloc (.cells #[.int .i64 E, .slice F2 ps.length f2, .string t, .int .i64 N] 48)).heap[w5.heap.size]? = some (.cells #[.int .i64 E, .slice F2 ps.length f2, .string t, .int .i64 N] 48 (0, 0)) ∧ w5.heap.size < (w5.alloc (.cells #[.int .i64 E, .slice F2 ps.length f2, .string t, .int .i64 N] 48)).heap.size) := ⟨heap_alloc_new w5 _, by simp⟩
  have HW45 : Aside0 (Below u4.heap.size u4 (w5.alloc (.cells #[.int .i64 E, .slice F2 ps.length f2, .string t, .int .i64 N] 48))) := HB5
  have HW35 : Aside0 (Below u3.heap.size u3 (w5.alloc (.cells #[.int .i64 E, .slice F2 ps.length f2, .string t, .int .i64 N] 48))) := ⟨below_then HB4.out HB4.out.size HB5.out⟩
  have HW25 : Aside0 (Below u2.heap.size u2 (w5.alloc (.cells #[.int .i64 E, .slice F2 ps.length f2, .string t, .int .i64 N] 48))) := ⟨below_then HB3.out HB3.out.size HW35.out⟩
  have HW15 : Aside0 (Below w1.heap.size w1 (w5.alloc (.cells #[.int .i64 E, .slice F2 ps.length f2, .string t, .int .i64 N] 48))) := ⟨below_then HB2.out HB2.out.size HW25.out⟩
  have HW5 : Aside0 (Below w.heap.size w (w5.alloc (.cells #[.int .i64 E, .slice F2 ps.length f2, .string t, .int .i64 N] 48))) := ⟨below_then HB1.out HB1.out.size HW15.out⟩
  have hz2 := (HW25.out.block p2 HG2.out.2).trans HG2.out.1
  have hz3 := (HW35.out.block p3 HG3.out.2).trans HG3.out.1
  obtain ⟨x0, x1, x2, _, _, _⟩ := cells3 hz2
  obtain ⟨y0, y1, y2, _, _, _⟩ := cells3 hz3
  clear hr1 hb hz2 hz3
  go_wp2_with fail
  refine (pantrylaw26_ops.calls k a B1 d1 ns B2 d2 ts a D1 g1 ns D2 g2 ts true _ (Kd.C_below HO1.out HW25.out) hd1 (Kd.C_below HO2.out HW25.out) hd2 (Kd.C_below HO3.out HW35.out) hg1 (Kd.C_below HO4.out HW35.out) hg2 HO.out).mono ?_
  rintro e_ w6 ⟨rfl, hb⟩
  generalize (w5.alloc (.cells #[.int .i64 E, .slice F2 ps.length f2, .string t, .int .i64 N] 48)) = u5 at *
  generalize w5.heap.size = p5 at *
  have HB6 := Aside0.mk hb
  clear hb x0 x1 x2 y0 y1 y2
  have HW46 : Aside0 (Below u4.heap.size u4 w6) := ⟨below_then HW45.out HW45.out.size HB6.out⟩
  have HW16 : Aside0 (Below w1.heap.size w1 w6) := ⟨below_then HW15.out HW15.out.size HB6.out⟩
  have HW6 : Aside0 (Below w.heap.size w w6) := ⟨below_then HW5.out HW5.out.size HB6.out⟩
  have hz4 := (HW46.out.block p4 HG4.out.2).trans HG4.out.1
  have hz5 := (HB6.out.block p5 HG5.out.2).trans HG5.out.1
  obtain ⟨⟨x0, x1, x2, x3⟩, _, _, _, _⟩ := cells4 hz4
  obtain ⟨⟨y0, y1, y2, y3⟩, _, _, _, _⟩ := cells4 hz5
  clear hz4 hz5
  go_wp2_with fail
  refine (pantrylaw26_replies.calls k E F1 f1 ps t N E F2 f2 ps t N true w6 (Kd.C_below HO5.out HW46.out) hf1 (Kd.C_below HO6.out HB6.out) hf2 HQ.out).mono ?_
  rintro e_ w7 ⟨rfl, hb⟩
  have HB7 := Aside0.mk hb
  clear hb x0 x1 x2 x3 y0 y1 y2 y3
  have HW17 : Aside0 (Below w1.heap.size w1 w7) := ⟨below_then HW16.out HW16.out.size HB7.out⟩
  have HW7 : Aside0 (Below w.heap.size w w7) := ⟨below_then HW6.out HW6.out.size HB7.out⟩
  go_wp2_with fail
  have hSC : Calls Try.prog 21 #[.slice A9 (l.length + 1) c9, .slice A l.length c] w7 fun e w' => e = .returned (.bool true) ∧ Drawn0 w7 w' := by
    have h9 := pantrylaw26_stands.calls k A9 c9 (l ++ [171]) A c l true w7 (Kd.C_below HR9.out.2.2 HW17.out) HR9.out.2.1 (Kd.C_below HC.out HW7.out) hc HS.out
    rwa [hle] at h9
  refine hSC.mono ?_
  rintro e_ w8 ⟨rfl, hd⟩
  have HW8 : Aside0 (Below w.heap.size w w8) := ⟨below_then HW7.out HW7.out.size hd.below⟩
  clear hSC hd
  go_wp2_with fail
  refine (pantrylaw26_known.calls k true _ HK.out).mono ?_
  rintro e_ w9 ⟨rfl, hb⟩
  have HW9 : Aside0 (Below w.heap.size w w9) := ⟨below_then HW8.out HW8.out.size hb⟩
  clear hb
  go_wp2_with fail
  go_ret
  exact ⟨rfl, HW9.out⟩
end Go.Proofs.Ytoblfdloakkmmaa.Rf
namespace Go.Proofs.Ytoblfdloakkmmaa.Rf
set_option linter.unusedVariables false
set_option linter.unusedSimpArgs false
open Go.RowKit Go.Proofs.Ytoblfdloakkmmaa.Mp Go.Proofs.Ytoblfdloakkmmaa.PL Go.Proofs.Ytoblfdloakkmmaa.Rd Go.Proofs.YtoblfdloakkmmaaW.PrintWords Go.Proofs.YtoblfdloakkmmaaW.PrintLast Go.Proofs.YtoblfdloakkmmaaW.PrintMore
def fine (k : Nat) (l : List Int) : Prop := b8 l = true ∧ pantrylaw26_roomy.f l = some (l ++ [171]) ∧ wrap64 (decAll l).2.2.2.2 = (decAll l).2.2.2.2 ∧ wrap64 (repAll l).2.2.2.2.2 = (repAll l).2.2.2.2.2 ∧
  pantrylaw26_ops.f k (decAll l).1 (decAll l).2.1 (decAll l).2.2.1 (decAll l).1 (decAll l).2.1 (decAll l).2.2.1 = some true ∧
  pantrylaw26_replies.f k (repAll l).1 (repAll l).2.1 (repAll l).2.2.1 (repAll l).2.2.2.1 (repAll l).1 (repAll l).2.1 (repAll l).2.2.1 (repAll l).2.2.2.1 = some true ∧
  pantrylaw26_stands.f k (l ++ [171]) l = some true ∧ pantrylaw26_known.f k = some true
open Classical in
noncomputable def pantrylaw26_ProtoDecodes.f (k : Nat) (l : List Int) : Option Bool :=
  if 6000 < l.length then some true else if fine k l then some true else none
theorem pantrylaw26_ProtoDecodes.calls (k : Nat) (A : Option Addr) (c : Nat) (l : List Int) (r : Bool) (w : World) (hC : (Kd.int .u8).C w A l.length l) (hc : l.length ≤ c) (h : pantrylaw26_ProtoDecodes.f k l = some r) :
    Calls Try.prog 7 #[.slice A l.length c] w fun e w' => e = .returned (.bool r) ∧ Below w.heap.size w w' := by
  unfold pantrylaw26_ProtoDecodes.f at h
  by_cases h1 : 6000 < l.length
  · rw [if_pos h1] at h
    obtain rfl := Option.some.inj h
    exact decodes_long A c l w h1
  · rw [if_neg h1] at h
    by_cases h2 : fine k l
    · rw [if_pos h2] at h
      obtain rfl := Option.some.inj h
      obtain ⟨g0, g1, g2, g3, g4, g5, g6, g7⟩ := h2
      have hs : b8s l = true := by unfold b8s; rw [g0, decide_eq_true (show l.length ≤ 4194304 by omega)]; rfl
      exact decodes_short k A c l w hC hc h1 g1 _ _ _ _ _ (by unfold decF; rw [if_pos g0]) (by unfold refF; rw [if_pos hs]) _ _ _ _ _ _ (by unfold repF; rw [if_pos g0]) (by unfold refRF; rw [if_pos hs]) g2 g3 g4 g5 g6 g7
    · rw [if_neg h2] at h; cases h
end Go.Proofs.Ytoblfdloakkmmaa.Rf
