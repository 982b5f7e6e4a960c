/- proto: what Decode says of a frame that is cut. Own work. -/
import Derived.Test.YtoblfdloakkmmaaEncB
import Derived.Test.YtoblfdloakkmmaaRdJ
namespace Go.Proofs.Ytoblfdloakkmmaa.Pure
set_option linter.unusedVariables false
open Go.RowKit Go.Proofs.Ytoblfdloakkmmaa.Mp Go.Proofs.Ytoblfdloakkmmaa.PL Go.Proofs.Ytoblfdloakkmmaa.Rd Go.Proofs.YtoblfdloakkmmaaW.PrintWords Go.Proofs.YtoblfdloakkmmaaW.PrintLast Go.Proofs.YtoblfdloakkmmaaW.PrintMore

theorem V_LEf (x : Nat) : ∀ (d i : Nat), V (LEf x i d) = x / 256 ^ i % 256 ^ d := by
  intro d
  induction d with
  | zero => intro i; simp [LEf, V, Nat.mod_one]
  | succ d ih =>
    intro i
    rw [LEf_succ, V, ih (i + 1), Int.toNat_natCast, Nat.pow_succ 256 i, ← Nat.div_div_eq_div_mul, Nat.pow_succ 256 d, Nat.mul_comm (256 ^ d) 256, Nat.mod_mul]
theorem V_LE (x n : Nat) (h : x < 256 ^ n) : V (LE x n) = x := by
  unfold LE
  rw [V_LEf, Nat.pow_zero, Nat.div_one, Nat.mod_eq_of_lt h]
theorem frame_len (kind : Int) (body : List Int) : (frameOf kind body).length = 8 + body.length := by
  simp only [frameOf, List.length_append, LE_length, List.length_cons, List.length_nil]
theorem frame_B8 (kind : Int) (body : List Int) (h : B8 body) : B8 (frameOf kind body) := by
  intro x hx
  simp only [frameOf, List.mem_append, List.mem_cons, List.not_mem_nil, or_false] at hx
  rcases hx with (h1 | h1) | h1
  · rcases h1 with rfl | rfl | rfl | rfl <;> omega
  · exact LE_B8 _ _ x h1
  · exact h x h1
theorem frame_take3 (kind : Int) (body : List Int) (m : List Int) : (frameOf kind body ++ m).take 3 = [80, 68, 1] := by
  simp [frameOf]
theorem frame_rd3 (kind : Int) (body : List Int) (m : List Int) : rd (frameOf kind body ++ m) 3 = kind % 256 := by
  simp [frameOf, rd]
theorem frame_hl (kind : Int) (body : List Int) (m : List Int) (h : body.length < 4294967296) : hl (frameOf kind body ++ m) = body.length := by
  have : ((frameOf kind body ++ m).drop 4).take 4 = LE body.length 4 := by
    have e : (frameOf kind body ++ m).drop 4 = LE body.length 4 ++ (body ++ m) := by simp [frameOf]
    rw [e, List.take_append_of_le_length (by rw [LE_length]; omega), List.take_of_length_le (by rw [LE_length]; omega)]
  unfold hl
  rw [this]
  exact V_LE _ 4 (by omega)
/-- a cut's first bytes are the frame's -/
theorem take_rd {l : List Int} {x i : Nat} (h : i < x) : rd (l.take x) (i : Int) = rd l (i : Int) := by
  simp only [rd_nat]
  rw [List.getD_eq_getElem?_getD, List.getD_eq_getElem?_getD, List.getElem?_take, if_pos h]
theorem hl_take {l : List Int} {x : Nat} (h : 8 ≤ x) : hl (l.take x) = hl l := by
  unfold hl
  rw [List.drop_take, List.take_take, Nat.min_eq_left (by omega)]
theorem dec_cut (kind : Int) (body : List Int) (h1 : 1 ≤ kind) (h2 : kind ≤ 100) (hb : body.length ≤ 4194304) (x : Nat) (hx : x < (frameOf kind body).length) : decAll ((frameOf kind body).take x) = (0, [], [], 0, 2) := by
  rw [frame_len] at hx
  have hlx : ((frameOf kind body).take x).length = x := by rw [List.length_take, frame_len]; omega
  have t3 := frame_take3 kind body []
  have r3 := frame_rd3 kind body []
  have h4 := frame_hl kind body [] (by omega)
  rw [List.append_nil] at t3 r3 h4
  unfold decAll
  rw [hlx]
  by_cases h8 : x < 8
  · rw [if_pos h8]
  · have e1 : ((frameOf kind body).take x).take 3 = [80, 68, 1] := by rw [List.take_take, Nat.min_eq_left (by omega), t3]
    have e2 : rd ((frameOf kind body).take x) 3 = kind := by
      have := take_rd (l := frameOf kind body) (x := x) (i := 3) (by omega)
      rw [show ((3 : Nat) : Int) = 3 from rfl] at this
      rw [this, r3]; omega
    have e3 : is30 kind = true := by unfold is30; simp [h1, h2]
    rw [if_neg h8, e1, if_neg (by simp), e2, e3, if_neg (by simp), hl_take (by omega), h4, if_neg (by omega), if_pos (by omega)]
end Go.Proofs.Ytoblfdloakkmmaa.Pure
