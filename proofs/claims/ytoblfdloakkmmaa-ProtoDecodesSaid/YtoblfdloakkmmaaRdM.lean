/- proto: DecodeReply, all of it, as a function of bytes. Own work. -/
import Derived.Test.YtoblfdloakkmmaaRdL
namespace Go.Proofs.Ytoblfdloakkmmaa.Rd
set_option linter.unusedVariables false
set_option linter.unusedSimpArgs false
open Go.RowKit Go.Proofs.Ytoblfdloakkmmaa.Mp Go.Proofs.Ytoblfdloakkmmaa.PL Go.Proofs.YtoblfdloakkmmaaW.PrintWords Go.Proofs.YtoblfdloakkmmaaW.PrintLast Go.Proofs.YtoblfdloakkmmaaW.PrintMore

/-- DecodeReply's answer -/
def repAll (l : List Int) : Int × List ByteArray × ByteArray × Int × Int × Int :=
  if l.length < 8 then (0, [], ⟨#[]⟩, 0, 0, 2)
  else if l.take 3 ≠ [80, 68, 1] then (0, [], ⟨#[]⟩, 0, 0, 3)
  else if is38 (rd l 3) = false then (0, [], ⟨#[]⟩, 0, 0, 3)
  else if 4194304 < hl l then (0, [], ⟨#[]⟩, 0, 0, 5)
  else if l.length < 8 + hl l then (0, [], ⟨#[]⟩, 0, 0, 2)
  else if (repBody ((l.take (8 + hl l)).drop 8)).1 = true then (0, [], ⟨#[]⟩, 0, 0, 3)
  else ((((repBody ((l.take (8 + hl l)).drop 8)).2.1 : Nat) : Int), (repBody ((l.take (8 + hl l)).drop 8)).2.2.2.1, (repBody ((l.take (8 + hl l)).drop 8)).2.2.2.2, (repBody ((l.take (8 + hl l)).drop 8)).2.2.1, ((8 + hl l : Nat) : Int), 0)
theorem rep_out {w : World} {A : Option Addr} {c : Nat} {l : List Int} {e : Int} (h : Calls Try.prog 18 #[.slice A l.length c] w fun e_ w' => e_ = .returned (.tuple #[.agg #[.int .i64 0, .slice none 0 0, .string ⟨#[]⟩, .int .i64 0], .int .i64 0, .int .i64 e]) ∧ Below w.heap.size w w') :
    Calls Try.prog 18 #[.slice A l.length c] w fun e_ w' => ∃ v1 : Value, e_ = .returned (.tuple #[.agg #[.int .i64 0, v1, .string ⟨#[]⟩, .int .i64 0], .int .i64 0, .int .i64 e]) ∧ Kd.R Kd.string 55 w' w.heap.size (fun _ => True) v1 [] ∧ Below w.heap.size w w' :=
  h.mono fun _ _ h => ⟨_, h.1, Kd.R_nil _ _ _ _ _, h.2⟩
theorem reply_any (w : World) (A : Option Addr) (c : Nat) (l : List Int) (hc : l.length ≤ c) (hC : (Kd.int .u8).C w A l.length l) (hb : B8 l) (hlm : l.length ≤ 9223372036854775807) :
    Calls Try.prog 18 #[.slice A l.length c] w fun e_ w' => ∃ v1 : Value, e_ = .returned (.tuple #[.agg #[.int .i64 (repAll l).1, v1, .string (repAll l).2.2.1, .int .i64 (repAll l).2.2.2.1], .int .i64 (repAll l).2.2.2.2.1, .int .i64 (repAll l).2.2.2.2.2]) ∧ Kd.R Kd.string 55 w' w.heap.size (fun _ => True) v1 (repAll l).2.1 ∧ Below w.heap.size w w' := by
  have hC2 := Kd.C_below hC (below_alloc (Below.refl _ w) z48)
  have hbody : B8 ((l.take (8 + hl l)).drop 8) := (hb.take _).drop _
  by_cases h1 : l.length < 8
  · have ht : repAll l = (0, [], ⟨#[]⟩, 0, 0, 2) := by unfold repAll; rw [if_pos h1]
    rw [ht]
    refine rep_out (rep_err w A c l 2 (by decide) ((open38_short _ A c l h1).mono ?_))
    rintro e w' ⟨rfl, rfl⟩
    exact ⟨rfl, Below.refl _ _⟩
  · by_cases h2 : l.take 3 ≠ [80, 68, 1]
    · have ht : repAll l = (0, [], ⟨#[]⟩, 0, 0, 3) := by unfold repAll; rw [if_neg h1, if_pos h2]
      rw [ht]
      exact rep_out (rep_err w A c l 3 (by decide) (open38_form1 _ A c l (by omega) hc hC2 hb h2))
    · have h2' : l.take 3 = [80, 68, 1] := Classical.not_not.1 h2
      by_cases h3 : is38 (rd l 3) = false
      · have ht : repAll l = (0, [], ⟨#[]⟩, 0, 0, 3) := by unfold repAll; rw [if_neg h1, if_neg h2, if_pos h3]
        rw [ht]
        exact rep_out (rep_err w A c l 3 (by decide) (open38_form2 _ A c l (by omega) hc hC2 hb h2' h3))
      · have h3' : is38 (rd l 3) = true := by simpa using h3
        by_cases h4 : 4194304 < hl l
        · have ht : repAll l = (0, [], ⟨#[]⟩, 0, 0, 5) := by unfold repAll; rw [if_neg h1, if_neg h2, if_neg h3, if_pos h4]
          rw [ht]
          exact rep_out (rep_err w A c l 5 (by decide) (open38_long _ A c l (by omega) hc hC2 hb h2' h3' h4))
        · by_cases h5 : l.length < 8 + hl l
          · have ht : repAll l = (0, [], ⟨#[]⟩, 0, 0, 2) := by unfold repAll; rw [if_neg h1, if_neg h2, if_neg h3, if_neg h4, if_pos h5]
            rw [ht]
            exact rep_out (rep_err w A c l 2 (by decide) (open38_cut _ A c l (by omega) hc hC2 hb h2' h3' (Nat.le_of_not_lt h4) h5 hlm))
          · have hO := rep_ok w A c l (rd l 3) ((8 + hl l : Nat) : Int) ((l.take (8 + hl l)).drop 8) hbody (open38_ok _ A c l (by omega) hc hC2 hb h2' h3' (Nat.le_of_not_lt h4) (Nat.le_of_not_lt h5) hlm)
            by_cases h6 : (repBody ((l.take (8 + hl l)).drop 8)).1 = true
            · have ht : repAll l = (0, [], ⟨#[]⟩, 0, 0, 3) := by unfold repAll; rw [if_neg h1, if_neg h2, if_neg h3, if_neg h4, if_neg h5, if_pos h6]
              rw [ht]
              refine rep_out (hO.mono ?_)
              intro e w' h
              unfold repPost at h
              rw [if_pos h6] at h
              exact h
            · have ht : repAll l = ((((repBody ((l.take (8 + hl l)).drop 8)).2.1 : Nat) : Int), (repBody ((l.take (8 + hl l)).drop 8)).2.2.2.1, (repBody ((l.take (8 + hl l)).drop 8)).2.2.2.2, (repBody ((l.take (8 + hl l)).drop 8)).2.2.1, ((8 + hl l : Nat) : Int), 0) := by unfold repAll; rw [if_neg h1, if_neg h2, if_neg h3, if_neg h4, if_neg h5, if_neg h6]
              rw [ht]
              refine hO.mono ?_
              intro e w' h
              unfold repPost at h
              rw [if_neg h6] at h
              obtain ⟨v1, h1, h2, h3⟩ := h
              exact ⟨v1, h1, h2, h3⟩
/-- DecodeReply, as the print's callers want it -/
def repF (l : List Int) : Option (Int × List ByteArray × ByteArray × Int × Int × Int) := if b8 l = true then some (repAll l) else none
theorem repF_calls (A0 : Option Addr) (c0 : Nat) (l0 : List Int) (r1 : Int) (r2 : List ByteArray) (r3 : ByteArray) (r4 r5 r6 : Int) (w : World) (hr0 : Kd.C (Kd.int .u8) w A0 l0.length l0) (hc0 : l0.length ≤ c0) (h : repF l0 = some (r1, r2, r3, r4, r5, r6)) :
    Calls Try.prog 18 #[.slice A0 l0.length c0] w fun e w' => ∃ v1_ : Value, e = .returned (.tuple #[.agg #[.int .i64 r1, v1_, .string r3, .int .i64 r4], .int .i64 r5, .int .i64 r6]) ∧ Kd.R Kd.string 55 w' w.heap.size (fun _ => True) v1_ r2 ∧ Below w.heap.size w w' := by
  unfold repF at h
  by_cases hb : b8 l0 = true
  · rw [if_pos hb] at h
    obtain ⟨hb1, hb2⟩ := b8_of hb
    have h' := reply_any w A0 c0 l0 hc0 hr0 hb1 hb2
    rw [Option.some.inj h] at h'
    exact h'
  · rw [if_neg hb] at h
    cases h
end Go.Proofs.Ytoblfdloakkmmaa.Rd
