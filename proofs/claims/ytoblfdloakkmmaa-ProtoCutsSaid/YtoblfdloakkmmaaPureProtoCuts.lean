/- For every op that is written as a frame, and every place in it: the bytes ahead of that place are refused as too short, and no op is read. No condition. -/
import Derived.Test.YtoblfdloakkmmaaCutB
namespace Go.Proofs.Ytoblfdloakkmmaa.Pure
set_option linter.unusedVariables false
open Go.RowKit Go.Proofs.Ytoblfdloakkmmaa.Mp Go.Proofs.Ytoblfdloakkmmaa.PL Go.Proofs.Ytoblfdloakkmmaa.Rd Go.Proofs.Ytoblfdloakkmmaa.CutB Go.Proofs.YtoblfdloakkmmaaW.PrintWords Go.Proofs.YtoblfdloakkmmaaW.PrintLast Go.Proofs.YtoblfdloakkmmaaW.PrintMore

theorem and30 (a : Int) : ∃ m : Nat, Go.bits .and .i64 a 1073741823 = (m : Int) ∧ m < 1073741824 := by
  have h : (BitVec.ofInt 64 a &&& BitVec.ofInt 64 1073741823).toNat ≤ 1073741823 := by
    rw [BitVec.toNat_and]
    exact Nat.le_trans Nat.and_le_right (by decide)
  refine ⟨(BitVec.ofInt 64 a &&& BitVec.ofInt 64 1073741823).toNat, ?_, by omega⟩
  have hb : Go.bits .and .i64 a 1073741823 = IntKind.i64.wrap (((BitVec.ofInt 64 a &&& BitVec.ofInt 64 1073741823).toNat : Nat) : Int) := rfl
  rw [hb]
  generalize (BitVec.ofInt 64 a &&& BitVec.ofInt 64 1073741823).toNat = t at *
  rw [IntKind.wrap_i64]
  omega
theorem bytesOf_B8 (s : ByteArray) : B8 (bytesOf s) := by
  intro x hx
  simp only [bytesOf, List.mem_map] at hx
  obtain ⟨u, _, rfl⟩ := hx
  have := u.toNat_lt
  omega
theorem body_B8 (nums : List Int) (texts : List ByteArray) : B8 (bodyOf nums texts) := by
  intro x hx
  simp only [bodyOf, List.mem_append, List.mem_flatMap] at hx
  rcases hx with ((h | ⟨a, _, h⟩) | h) | ⟨a, _, h⟩
  · exact LE_B8 _ _ x h
  · exact LE_B8 _ _ x h
  · exact LE_B8 _ _ x h
  · simp only [tb, List.mem_append] at h
    rcases h with h | h
    · exact LE_B8 _ _ x h
    · exact bytesOf_B8 _ x h
theorem ProtoCuts (kind : Int) (l1 : List Int) (l2 : List ByteArray) (a3 : Int) (hk : (Lit.int .i64 kind).wf = true) (m1 : l1.length ≤ maxLen) (y1 : l1.length * 8 ≤ 140737488351232) (g1 : ∀ x ∈ l1, (Lit.int .i64 x).wf = true)
    (m2 : l2.length ≤ maxLen) (y2 : l2.length * 16 ≤ 140737488351232) (g2 : ∀ s ∈ l2, s.size ≤ 140737488351232) (h3 : (Lit.int .i64 a3).wf = true) : ∃ k, pantrylaw26_ProtoCuts.f k kind l1 l2 a3 = some true := by
  obtain ⟨r, ⟨K0, h0⟩, hr⟩ := heavy_ev l2 l1.length g2 (by omega) (by omega)
  cases r with
  | true =>
    refine ⟨K0, ?_⟩
    unfold pantrylaw26_ProtoCuts.f
    exact it (h0 _ (Nat.le_refl _)) rfl
  | false =>
    have ht := hr rfl
    have hbl : l1.length ≤ 64 → l2.length ≤ 1024 → (bodyOf l1 l2).length ≤ 4194304 := fun a b => by rw [body_length]; omega
    have hbl2 : (bodyOf l1 l2).length ≤ 4194304 := by rw [body_length]; omega
    obtain ⟨K1, h1⟩ := enc_ev kind l1 l2 hbl
    obtain ⟨K4, h4⟩ := ops_ev 0 [] [] (by decide) (by decide)
    obtain ⟨K5, h5⟩ := known_ev
    refine ⟨K0 + K1 + K4 + K5, ?_⟩
    have q0 := h0 (K0 + K1 + K4 + K5) (by omega)
    have q1 := h1 (K0 + K1 + K4 + K5) (by omega)
    have q4 := h4 (K0 + K1 + K4 + K5) (by omega)
    have q5 := h5 (K0 + K1 + K4 + K5) (by omega)
    simp only at q0 q1 q4 q5
    generalize K0 + K1 + K4 + K5 = k at *
    clear h0 h1 h4 h5
    unfold pantrylaw26_ProtoCuts.f
    refine jf (by rw [q0]; simp) (jf (by rw [q0, q5]; simp) (bd q1 ?_))
    by_cases e1 : kind < 1 ∨ 100 < kind
    · rw [encOf_arg e1]; exact it (by decide) rfl
    by_cases e2 : 64 < l1.length ∨ 1024 < l2.length
    · rw [encOf_long e1 e2]; exact it (by decide) rfl
    rw [encOf_ok e1 e2]
    have hfl := frame_len kind (bodyOf l1 l2)
    have hfb := frame_B8 kind (bodyOf l1 l2) (body_B8 l1 l2)
    have hcut := fun x => dec_cut kind (bodyOf l1 l2) (by omega) (by omega) hbl2 x
    generalize frameOf kind (bodyOf l1 l2) = b at *
    refine jf (by simp) (it ?_ rfl)
    obtain ⟨m, hm, hm2⟩ := and30 a3
    have ha : at_ b a3 = ((m % b.length : Nat) : Int) := by
      unfold at_
      rw [hm]
      exact (Int.ofNat_tmod m b.length).symm
    show b.length ≠ 0 ∧ 0 ≤ at_ b a3 ∧ (at_ b a3).toNat < b.length ∧ decF (b.take (at_ b a3).toNat) = some (0, [], [], 0, 2) ∧ _
    rw [ha, Int.toNat_natCast]
    have hlt : m % b.length < b.length := Nat.mod_lt _ (by omega)
    refine ⟨by omega, Int.natCast_nonneg _, hlt, ?_, q4⟩
    unfold decF
    rw [if_pos (b8_in (hfb.take _) (by rw [List.length_take]; omega)), hcut _ hlt]
end Go.Proofs.Ytoblfdloakkmmaa.Pure
