/- proto: the law ProtoCuts as a function of what came in. Own work. -/
import Derived.Test.YtoblfdloakkmmaaCutA
import Derived.Test.YtoblfdloakkmmaaDecA
namespace Go.Proofs.Ytoblfdloakkmmaa.CutB
set_option linter.unusedVariables false
open Go.RowKit Go.Proofs.Ytoblfdloakkmmaa.Mp Go.Proofs.Ytoblfdloakkmmaa.PL Go.Proofs.Ytoblfdloakkmmaa.Rd Go.Proofs.YtoblfdloakkmmaaW.PrintWords Go.Proofs.YtoblfdloakkmmaaW.PrintLast Go.Proofs.YtoblfdloakkmmaaW.PrintMore

/-- where it is cut -/
def at_ (b : List Int) (a3 : Int) : Int := (Go.bits .and .i64 a3 1073741823).tmod (b.length : Int)
def pantrylaw26_ProtoCuts.f (k : Nat) (a0 : Int) (l1 : List Int) (l2 : List ByteArray) (a3 : Int) : Option Bool :=
  if pantrylaw26_heavy.f k l2 (l1.length : Int) = some true then some true
  else if ¬ pantrylaw26_heavy.f k l2 (l1.length : Int) = some false ∨ ¬ pantrylaw26_known.f k = some true then none
  else (proto_Encode.f k a0 l1 l2).bind fun be =>
    if be.2 ≠ 0 then some true
    else if be.1.length ≠ 0 ∧ 0 ≤ at_ be.1 a3 ∧ (at_ be.1 a3).toNat < be.1.length ∧ decF (be.1.take (at_ be.1 a3).toNat) = some (0, [], [], 0, 2) ∧ pantrylaw26_ops.f k 0 [] [] 0 [] [] = some true then some true
    else none
theorem pantrylaw26_ProtoCuts.calls (k : Nat) (a0 : Int) (A1 : Option Addr) (c1 : Nat) (l1 : List Int) (A2 : Option Addr) (c2 : Nat) (l2 : List ByteArray) (a3 : Int) (r : Bool) (w : World) (hr1 : Kd.C (Kd.int .i64) w A1 l1.length l1) (hc1 : l1.length ≤ c1) (hr2 : Kd.C Kd.string w A2 l2.length l2) (hc2 : l2.length ≤ c2) (h : pantrylaw26_ProtoCuts.f k a0 l1 l2 a3 = some r) :
    Calls Try.prog 6 #[.int .i64 a0, .slice A1 l1.length c1, .slice A2 l2.length c2, .int .i64 a3] w fun e w' => e = .returned (.bool r) ∧ Below w.heap.size w w' := by
  unfold pantrylaw26_ProtoCuts.f at h
  by_cases h1 : pantrylaw26_heavy.f k l2 (l1.length : Int) = some true
  · rw [if_pos h1] at h
    obtain rfl := Option.some.inj h
    exact cuts_heavy k a0 A1 c1 l1 A2 c2 l2 a3 w hr2 hc2 h1
  · rw [if_neg h1] at h
    by_cases h2 : ¬ pantrylaw26_heavy.f k l2 (l1.length : Int) = some false ∨ ¬ pantrylaw26_known.f k = some true
    · rw [if_pos h2] at h; cases h
    · rw [if_neg h2] at h
      have h3 : pantrylaw26_heavy.f k l2 (l1.length : Int) = some false := by by_cases q : pantrylaw26_heavy.f k l2 (l1.length : Int) = some false; exact q; exact absurd (.inl q) h2
      have h4 : pantrylaw26_known.f k = some true := by by_cases q : pantrylaw26_known.f k = some true; exact q; exact absurd (.inr q) h2
      obtain ⟨⟨b, e⟩, hE, h⟩ := Option.bind_eq_some_iff.mp h
      by_cases h5 : e ≠ 0
      · rw [if_pos h5] at h
        obtain rfl := Option.some.inj h
        exact cuts_refused k a0 A1 c1 l1 A2 c2 l2 a3 w hr1 hc1 hr2 hc2 h3 b e h5 hE h4
      · rw [if_neg h5] at h
        obtain rfl : e = 0 := Classical.not_not.1 h5
        by_cases h6 : b.length ≠ 0 ∧ 0 ≤ at_ b a3 ∧ (at_ b a3).toNat < b.length ∧ decF (b.take (at_ b a3).toNat) = some (0, [], [], 0, 2) ∧ pantrylaw26_ops.f k 0 [] [] 0 [] [] = some true
        · rw [if_pos h6] at h
          obtain rfl := Option.some.inj h
          obtain ⟨g1, g2, g3, g4, g5⟩ := h6
          exact cuts_cut k a0 A1 c1 l1 A2 c2 l2 a3 w hr1 hc1 hr2 hc2 h3 b hE (at_ b a3).toNat g1 g3 (Int.toNat_of_nonneg g2).symm g4 g5 h4
        · rw [if_neg h6] at h; cases h
end Go.Proofs.Ytoblfdloakkmmaa.CutB
