/- For every row of bytes, place and byte: bytes of one length that are unlike have unlike digits. No condition. -/
import Derived.Test.YtbcogccamagkmaaB32A
namespace Go.Proofs.Ytbcogccamagkmaa.Pure
set_option linter.unusedVariables false
open Go.RowKit Go.Proofs.Ytbcogccamagkmaa.Mb Go.Proofs.Ytbcogccamagkmaa.PL Go.Proofs.YtbcogccamagkmaaW.PrintWords Go.Proofs.YtbcogccamagkmaaW.PrintLast Go.Proofs.YtbcogccamagkmaaW.PrintMore

theorem xor_u8 : ∀ x y : Nat, x < 256 → y < 256 → y ≠ 0 → 0 ≤ Go.bits .xor .u8 (x : Int) (y : Int) ∧ Go.bits .xor .u8 (x : Int) (y : Int) < 256 ∧ Go.bits .xor .u8 (x : Int) (y : Int) ≠ (x : Int) := by
  intro x y hx hy h0
  have h1 : Go.bits .xor .u8 (x : Int) (y : Int) = ((x ^^^ y : Nat) : Int) := by
    have hlt : x ^^^ y < 2 ^ 8 := Nat.xor_lt_two_pow (show x < 2 ^ 8 from hx) (show y < 2 ^ 8 from hy)
    simp only [Go.bits, BitVec.ofInt_natCast, BitVec.toNat_xor, BitVec.toNat_ofNat, show IntKind.u8.bits = 8 from rfl, Nat.mod_eq_of_lt (show x < 2 ^ 8 from hx), Nat.mod_eq_of_lt (show y < 2 ^ 8 from hy)]
    exact wu8 (by omega) (by omega)
  have hlt : x ^^^ y < 256 := Nat.xor_lt_two_pow (n := 8) hx hy
  have hne : x ^^^ y ≠ x := fun h => h0 (by
    have h2 : x ^^^ (x ^^^ y) = x ^^^ x := by rw [h]
    rw [← Nat.xor_assoc, Nat.xor_self, Nat.zero_xor] at h2
    exact h2)
  rw [h1]; omega
theorem and_range (a : Int) : 0 ≤ Go.bits .and .i64 a 65535 ∧ Go.bits .and .i64 a 65535 ≤ 65535 := by
  have e : Go.bits .and .i64 a 65535 = IntKind.i64.wrap ((BitVec.ofInt 64 a &&& BitVec.ofInt 64 65535).toNat : Int) := rfl
  have h : (BitVec.ofInt 64 a &&& BitVec.ofInt 64 65535).toNat ≤ 65535 := by
    rw [BitVec.toNat_and]
    exact Nat.le_trans Nat.and_le_right (by decide)
  rw [e, IntKind.wrap_i64]
  omega
theorem B32Unlike : pantrylaw2_B32Unlike.Pure := by
  intro l a by_ hm hs hwf ha hby
  have hb := B8.of_wf hwf
  have hy := wf_u8 hby
  obtain ⟨K, hK⟩ := known_ev
  unfold pantrylaw2_B32Unlike.f
  by_cases h600 : (l.length : Int) > 600
  · exact ⟨1, it h600 (by simp [pantrylaw2_B32Unlike.j0])⟩
  by_cases h0 : (l.length : Int) = 0
  · exact ⟨1, jf h600 (it h0 (by simp [pantrylaw2_B32Unlike.j0]))⟩
  by_cases hz : by_ = 0
  · exact ⟨1, jf h600 (jf h0 (by simp [pantrylaw2_B32Unlike.j0, hz]))⟩
  have hr := and_range a
  have hq0 : 0 ≤ Int.tmod (Go.bits .and .i64 a 65535) (l.length : Int) := Int.tmod_nonneg _ hr.1
  have hq1 : Int.tmod (Go.bits .and .i64 a 65535) (l.length : Int) < (l.length : Int) := Int.tmod_lt_of_pos _ (by omega)
  obtain ⟨q, hq⟩ := Int.eq_ofNat_of_zero_le hq0
  rw [hq] at hq0 hq1
  have hg := hb.rd (q : Int)
  have hx := xor_u8 (rd l (q : Int)).toNat by_.toNat (by omega) (by omega) (by omega)
  rw [Int.toNat_of_nonneg hg.1, Int.toNat_of_nonneg hy.1] at hx
  generalize hc : Go.bits .xor .u8 (rd l (q : Int)) by_ = c at *
  have hbc : B8 (l.set q c) := hb.set q hx.1 hx.2.1
  obtain ⟨K1, hK1⟩ := text_ev l hb (by omega)
  obtain ⟨K2, hK2⟩ := text_ev (l.set q c) hbc (by rw [List.length_set]; omega)
  have hne : ¬ (strOfNums (digits (V l) (len8 l.length))).toList = (strOfNums (digits (V (l.set q c)) (len8 (l.set q c).length))).toList := by
    intro h
    have h2 := str_inj (digits_B8 _ _) (digits_B8 _ _) h
    have h3 := digits_V_inj hb hbc (by simp) h2
    have h4 : rd l (q : Int) = c := by
      rw [rd_nat, h3, List.getD_eq_getElem?_getD, List.getElem?_set_self (by omega)]
      rfl
    exact hx.2.2 h4.symm
  refine ⟨K + K1 + K2 + 1, jf h600 (jf h0 ?_)⟩
  have hzf : (by_ == 0) = false := by simpa using hz
  rw [hzf]
  simp only [pantrylaw2_B32Unlike.j0, Option.bind_some, List.nil_append, List.length_nil, hq]
  refine jf (by simp) (it (by omega) (jf h0 (it hq0 (it hq1 (bd (hK1 _ (by omega)) ?_)))))
  rw [Int.toNat_natCast, hc]
  exact bd (hK2 _ (by omega)) (jf hne (bd (hK _ (by omega)) rfl))
end Go.Proofs.Ytbcogccamagkmaa.Pure
