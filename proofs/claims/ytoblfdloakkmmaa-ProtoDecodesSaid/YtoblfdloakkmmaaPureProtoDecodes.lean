/- For every bytes: the ops and the replies that are read of them, and the refusals, are the reference's, and the bytes behind them stand. No condition. -/
import Derived.Test.YtoblfdloakkmmaaRfM
import Derived.Test.YtoblfdloakkmmaaEncB
namespace Go.Proofs.Ytoblfdloakkmmaa.Pure
set_option linter.unusedVariables false
open Go.RowKit Go.Proofs.Ytoblfdloakkmmaa.Mp Go.Proofs.Ytoblfdloakkmmaa.PL Go.Proofs.Ytoblfdloakkmmaa.Rd Go.Proofs.Ytoblfdloakkmmaa.Rf Go.Proofs.YtoblfdloakkmmaaW.PrintWords Go.Proofs.YtoblfdloakkmmaaW.PrintLast Go.Proofs.YtoblfdloakkmmaaW.PrintMore
theorem replies_l0 (a n : Int) (t : List ByteArray) (s : ByteArray) (ht : t.length < 9000000000000000) : ∀ (d i k : Nat), i + d = t.length → d < k → pantrylaw26_replies.l0 k (i : Int) a t s n a t s n = some true := by
  intro d
  induction d with
  | zero =>
    intro i k hi hk
    obtain ⟨k, rfl⟩ : ∃ q, k = q + 1 := ⟨k - 1, by omega⟩
    simp only [pantrylaw26_replies.l0]
    exact jf (by omega) rfl
  | succ d ih =>
    intro i k hi hk
    obtain ⟨k, rfl⟩ : ∃ q, k = q + 1 := ⟨k - 1, by omega⟩
    have c1 : (i : Int) < (t.length : Int) := by omega
    have h := ih (i + 1) k (by omega) (by omega)
    have e2 := w1 i (by omega)
    simp only [pantrylaw26_replies.l0]
    rw [e2]
    exact it c1 (it (Int.natCast_nonneg _) (it c1 (it trivial h)))
theorem replies_ev (a n : Int) (t : List ByteArray) (s : ByteArray) (ht : t.length < 9000000000000000) : Ev (fun k => pantrylaw26_replies.f k a t s n a t s n) true := by
  refine ⟨t.length + 3, fun k hk => ?_⟩
  obtain ⟨k, rfl⟩ : ∃ q, k = q + 1 := ⟨k - 1, by omega⟩
  have h := replies_l0 a n t s ht t.length 0 k (by omega) (by omega)
  have hb : ((t.length : Int) != (t.length : Int)) = false := by simp
  unfold pantrylaw26_replies.f
  refine it rfl (it rfl (it rfl ?_))
  rw [hb]
  simp only [pantrylaw26_replies.j0]
  exact jf (by simp) h
theorem nl_count (n : Nat) (l : List Int) (b : Bool) : (nl n l b).1.length = n := by
  induction n generalizing l b with
  | zero => rfl
  | succ n ih => rw [nl, List.length_cons, ih]
theorem tl_count (n : Nat) (l : List Int) (b : Bool) : (tl n l b).1.length = n := by
  induction n generalizing l b with
  | zero => rfl
  | succ n ih => rw [tl, List.length_cons, ih]
theorem body_small (p : List Int) : (decBody p).2.1.length ≤ 64 ∧ (decBody p).2.2.length ≤ 1024 := by
  unfold decBody
  simp only
  rw [nl_count, tl_count]
  exact ⟨up_le _ _ _, up_le _ _ _⟩
theorem rbody_small (p : List Int) : (repBody p).2.2.2.1.length ≤ 1024 := by
  unfold repBody
  simp only
  rw [tl_count]
  exact up_le _ _ _
theorem decAll_small (l : List Int) : (decAll l).2.1.length ≤ 64 ∧ (decAll l).2.2.1.length ≤ 1024 ∧ wrap64 (decAll l).2.2.2.2 = (decAll l).2.2.2.2 := by
  unfold decAll
  split
  · exact ⟨by simp, by simp, by simp [wrap64]⟩
  split
  · exact ⟨by simp, by simp, by simp [wrap64]⟩
  split
  · exact ⟨by simp, by simp, by simp [wrap64]⟩
  split
  · exact ⟨by simp, by simp, by simp [wrap64]⟩
  split
  · exact ⟨by simp, by simp, by simp [wrap64]⟩
  split
  · exact ⟨by simp, by simp, by simp [wrap64]⟩
  exact ⟨(body_small _).1, (body_small _).2, by simp [wrap64]⟩
theorem repAll_small (l : List Int) : (repAll l).2.1.length ≤ 1024 ∧ wrap64 (repAll l).2.2.2.2.2 = (repAll l).2.2.2.2.2 := by
  unfold repAll
  split
  · exact ⟨by simp, by simp [wrap64]⟩
  split
  · exact ⟨by simp, by simp [wrap64]⟩
  split
  · exact ⟨by simp, by simp [wrap64]⟩
  split
  · exact ⟨by simp, by simp [wrap64]⟩
  split
  · exact ⟨by simp, by simp [wrap64]⟩
  split
  · exact ⟨by simp, by simp [wrap64]⟩
  exact ⟨rbody_small _, by simp [wrap64]⟩
theorem ProtoDecodes (l : List Int) (m : l.length ≤ maxLen) (y : l.length * 1 ≤ 140737488351232) (g : ∀ x ∈ l, (Lit.int .u8 x).wf = true) : ∃ k, pantrylaw26_ProtoDecodes.f k l = some true := by
  unfold pantrylaw26_ProtoDecodes.f
  by_cases h1 : 6000 < l.length
  · exact ⟨0, by rw [if_pos h1]⟩
  · obtain ⟨d1, d2, d3⟩ := decAll_small l
    obtain ⟨r1, r2⟩ := repAll_small l
    obtain ⟨K1, q1⟩ := ops_ev (decAll l).1 (decAll l).2.1 (decAll l).2.2.1 (by omega) (by omega)
    obtain ⟨K2, q2⟩ := replies_ev (repAll l).1 (repAll l).2.2.2.1 (repAll l).2.1 (repAll l).2.2.1 (by omega)
    obtain ⟨K3, q3⟩ := stands_ev l (by omega)
    obtain ⟨K4, q4⟩ := known_ev
    refine ⟨K1 + K2 + K3 + K4, ?_⟩
    rw [if_neg h1, if_pos]
    exact ⟨b8_in (B8.of_wf g) (by omega), roomy_f l (by omega), d3, r2, q1 _ (by omega), q2 _ (by omega), q3 _ (by omega), q4 _ (by omega)⟩
end Go.Proofs.Ytoblfdloakkmmaa.Pure
