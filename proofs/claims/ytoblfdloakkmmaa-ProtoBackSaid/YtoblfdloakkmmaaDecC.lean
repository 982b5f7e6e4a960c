/- proto: a frame that is read is the frame of what was read. Own work. -/
import Derived.Test.YtoblfdloakkmmaaDecB
namespace Go.Proofs.Ytoblfdloakkmmaa.Pure
set_option linter.unusedVariables false
open Go.RowKit Go.Proofs.Ytoblfdloakkmmaa.Mp Go.Proofs.Ytoblfdloakkmmaa.PL Go.Proofs.Ytoblfdloakkmmaa.Rd Go.Proofs.YtoblfdloakkmmaaW.PrintWords Go.Proofs.YtoblfdloakkmmaaW.PrintLast Go.Proofs.YtoblfdloakkmmaaW.PrintMore

theorem bytesOf_B8 (s : ByteArray) : B8 (bytesOf s) := by
  intro x hx
  simp only [bytesOf, List.mem_map] at hx
  obtain ⟨u, _, rfl⟩ := hx
  have := u.toNat_lt
  omega
theorem body_B8 (nums : List Int) (texts : List ByteArray) : B8 (bodyOf nums texts) := by
  intro x hx
  simp only [bodyOf, List.mem_append, List.mem_flatMap] at hx
  rcases hx with ((h | ⟨a, _, h⟩) | h) | ⟨a, _, h⟩
  · exact LE_B8 _ _ x h
  · exact LE_B8 _ _ x h
  · exact LE_B8 _ _ x h
  · simp only [tb, List.mem_append] at h
    rcases h with h | h
    · exact LE_B8 _ _ x h
    · exact bytesOf_B8 _ x h
theorem head_split (l : List Int) (h : Nat) (h8 : 8 + h ≤ l.length) (ht : l.take 3 = [80, 68, 1]) (hb : B8 l) (hh : hl l = h) : frameOf (rd l 3) ((l.take (8 + h)).drop 8) = l.take (8 + h) := by
  have hp : ((l.take (8 + h)).drop 8).length = h := by rw [List.length_drop, List.length_take]; omega
  have h4 : LE h 4 = (l.drop 4).take 4 := by
    have hl4 : ((l.drop 4).take 4).length = 4 := by rw [List.length_take, List.length_drop]; omega
    have := LE_V (l := (l.drop 4).take 4) ((hb.drop 4).take 4)
    rw [hl4] at this
    rw [← hh]
    exact this
  have h3 : rd l 3 % 256 = rd l 3 := by have := hb.rd 3; omega
  have e3 : l.drop 3 = rd l 3 :: l.drop 4 := by
    rw [List.drop_eq_getElem_cons (by omega : 3 < l.length)]
    have : rd l 3 = l[3] := by
      have := rd_nat l 3
      rw [show ((3 : Nat) : Int) = 3 from rfl] at this
      rw [this, getD_lt _ _ _ (by omega)]
    rw [this]
  unfold frameOf
  rw [hp, h4, h3]
  have e1 : l.take (8 + h) = l.take 8 ++ (l.take (8 + h)).drop 8 := by
    have := (List.take_append_drop 8 (l.take (8 + h))).symm
    rw [List.take_take, Nat.min_eq_left (by omega)] at this
    exact this
  have e2 : l.take 8 = [80, 68, 1, rd l 3] ++ (l.drop 4).take 4 := by
    have a1 : l.take 8 = l.take 3 ++ (l.drop 3).take 5 := by rw [← List.take_add]
    rw [a1, ht, e3]
    rfl
  rw [← e2]
  exact e1.symm
theorem decAll_inv (l : List Int) (hb : B8 l) : (decAll l).2.2.2.2 ≠ 0 ∨ ∃ kd ns ts, decAll l = (kd, ns, ts, ((frameOf kd (bodyOf ns ts)).length : Int), 0) ∧ frameOf kd (bodyOf ns ts) = l.take (frameOf kd (bodyOf ns ts)).length ∧ (frameOf kd (bodyOf ns ts)).length ≤ l.length ∧
    1 ≤ kd ∧ kd ≤ 100 ∧ ns.length ≤ 64 ∧ ts.length ≤ 1024 ∧ (bodyOf ns ts).length ≤ 4194304 := by
  by_cases h1 : l.length < 8
  · left; unfold decAll; rw [if_pos h1]; decide
  by_cases h2 : l.take 3 ≠ [80, 68, 1]
  · left; unfold decAll; rw [if_neg h1, if_pos h2]; decide
  by_cases h3 : is30 (rd l 3) = false
  · left; unfold decAll; rw [if_neg h1, if_neg h2, if_pos h3]; decide
  by_cases h4 : 4194304 < hl l
  · left; unfold decAll; rw [if_neg h1, if_neg h2, if_neg h3, if_pos h4]; decide
  by_cases h5 : l.length < 8 + hl l
  · left; unfold decAll; rw [if_neg h1, if_neg h2, if_neg h3, if_neg h4, if_pos h5]; decide
  by_cases h6 : (decBody ((l.take (8 + hl l)).drop 8)).1 = true
  · left; unfold decAll; rw [if_neg h1, if_neg h2, if_neg h3, if_neg h4, if_neg h5, if_pos h6]; decide
  right
  have h2' : l.take 3 = [80, 68, 1] := Classical.not_not.1 h2
  have hs := head_split l (hl l) (by omega) h2' hb rfl
  have hB : B8 ((l.take (8 + hl l)).drop 8) := (hb.take _).drop _
  obtain ⟨g1, g2, g3⟩ := decBody_inv hB (by simpa using h6)
  have hp : ((l.take (8 + hl l)).drop 8).length = hl l := by rw [List.length_drop, List.length_take]; omega
  have hfl := frame_len (rd l 3) ((l.take (8 + hl l)).drop 8)
  have ht : decAll l = (rd l 3, (decBody ((l.take (8 + hl l)).drop 8)).2.1, (decBody ((l.take (8 + hl l)).drop 8)).2.2, ((8 + hl l : Nat) : Int), 0) := by unfold decAll; rw [if_neg h1, if_neg h2, if_neg h3, if_neg h4, if_neg h5, if_neg h6]
  have hk : is30 (rd l 3) = true := by simpa using h3
  unfold is30 at hk
  simp only [Bool.and_eq_true, decide_eq_true_eq] at hk
  refine ⟨rd l 3, _, _, ?_, ?_, ?_, hk.1, hk.2, g2, g3, ?_⟩
  · rw [← g1, hfl, hp]; exact ht
  · rw [← g1, hfl, hp]; exact hs
  · rw [← g1, hfl, hp]; omega
  · rw [← g1, hp]; omega
end Go.Proofs.Ytoblfdloakkmmaa.Pure
