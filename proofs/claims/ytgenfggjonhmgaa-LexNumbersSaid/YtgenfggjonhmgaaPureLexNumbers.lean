/- For every number of 64 bits: its decimal digits between two blanks are one word, the number, at place 1, where it is at most 2^63-1, and an error at place 1 where it is greater; with a nought ahead they are an error at place 0. No condition. -/
import Derived.Test.YtgenfggjonhmgaaLxN
import Derived.Test.YtgenfggjonhmgaaLxNum
import Derived.Test.YtgenfggjonhmgaaMm7
namespace Go.Proofs.Ytgenfggjonhmgaa.Pure
set_option linter.unusedVariables false
open Go.RowKit Go.Proofs.Ytgenfggjonhmgaa.Ml Go.Proofs.Ytgenfggjonhmgaa.Mm Go.Proofs.Ytgenfggjonhmgaa.Lx Go.Proofs.Ytgenfggjonhmgaa.PL Go.Proofs.YtgenfggjonhmgaaW.PrintWords Go.Proofs.YtgenfggjonhmgaaW.PrintLast Go.Proofs.YtgenfggjonhmgaaW.PrintMore
theorem dec_l0 : ∀ (k n : Nat) (acc : List UInt8) (j : Nat), 1 ≤ k → k ≤ 20 → n < 10 ^ k → k ≤ j → acc.length + k ≤ 1000 → pantrylaw22_dec.l0 j (n : Int) (ofL acc) = some (ofL (digU k n ++ acc)) := by
  intro k
  induction k with
  | zero => intro n acc j h; omega
  | succ k ih =>
    intro n acc j _ hk hn hj ha
    obtain ⟨j, rfl⟩ : ∃ q, j = q + 1 := ⟨j - 1, by omega⟩
    have hn20 : n < 10 ^ 20 := Nat.lt_of_lt_of_le hn (Nat.pow_le_pow_right (by decide) hk)
    have h64 : n / 10 < 18446744073709551616 := by omega
    have e1 : Int.tmod (n : Int) 10 = ((n % 10 : Nat) : Int) := rfl
    have e2 : Int.tdiv (n : Int) 10 = ((n / 10 : Nat) : Int) := rfl
    have e3 : IntKind.u64.wrap (48 + ((n % 10 : Nat) : Int)) % 256 = ((48 + n % 10 : Nat) : Int) := by
      have : IntKind.u64.wrap (48 + ((n % 10 : Nat) : Int)) = 48 + ((n % 10 : Nat) : Int) := wu64 (by omega) (by omega)
      rw [this]; omega
    have e4 : IntKind.u64.wrap ((n / 10 : Nat) : Int) = ((n / 10 : Nat) : Int) := wu64 (by omega) (by omega)
    have e5 : strOfNums [((48 + n % 10 : Nat) : Int)] = ofL [UInt8.ofNat (48 + n % 10)] := rfl
    simp only [pantrylaw22_dec.l0]
    rw [e1, e2, e3, e4]
    refine bd rfl ?_
    rw [e5, ofL_app]
    have h10 : n / 10 < 10 ^ k := by rw [Nat.pow_succ] at hn; omega
    refine it (by rw [ofL_size, ofL_size]; simp; omega) ?_
    rw [digU]
    by_cases h0 : n / 10 = 0
    · rw [if_pos h0]
      exact it (by rw [h0]; rfl) rfl
    · rw [if_neg h0]
      refine jf (by omega) ?_
      have hk1 : 1 ≤ k := by
        rcases Nat.eq_zero_or_pos k with hz | hz
        · subst hz; simp at h10; omega
        · exact hz
      rw [ih (n / 10) _ j hk1 (by omega) h10 (by omega) (by simp; omega), List.append_assoc]
theorem tokens_two (a b : S28) : pantrylaw22_tokens.f 3 [a, b] [a, b] = some true := by
  unfold pantrylaw22_tokens.f
  refine it rfl ?_
  simp [pantrylaw22_tokens.l0, rd_T28, wrap64]
theorem wf_u64' {x : Int} (h : (Lit.int .u64 x).wf = true) : 0 ≤ x ∧ x < 18446744073709551616 := by
  simp [Lit.wf, IntKind.min, IntKind.max, IntKind.signed, IntKind.bits] at h; omega
theorem LexNumbers : pantrylaw22_LexNumbers.Pure := by
  intro a0 h0
  have hw := wf_u64' h0
  obtain ⟨n, rfl⟩ := Int.eq_ofNat_of_zero_le hw.1
  have hn : n < 10 ^ 20 := by have := hw.2; omega
  have hd : pantrylaw22_dec.f 30 (n : Int) = some (ofL (digU 20 n)) := by
    unfold pantrylaw22_dec.f
    have := dec_l0 20 n [] 30 (by decide) (Nat.le_refl _) hn (by decide) (by decide)
    rw [List.append_nil] at this
    exact this
  have hlen := (digU_ok 20 n hn).2.2
  have e1 : ((⟨#[32]⟩ : ByteArray) ++ ofL (digU 20 n)) ++ (⟨#[32]⟩ : ByteArray) = ofL ([32] ++ (digU 20 n ++ [32])) := by
    show (ofL [32] ++ ofL (digU 20 n)) ++ ofL [32] = _
    rw [ofL_app, ofL_app, List.append_assoc]
  have e2 : (⟨#[48]⟩ : ByteArray) ++ ofL (digU 20 n) = ofL ([48] ++ digU 20 n) := ofL_app [48] _
  have e3 : ((⟨#[32]⟩ : ByteArray) ++ ofL (digU 20 n)).size = 1 + (digU 20 n).length := by
    show (ofL [32] ++ ofL (digU 20 n)).size = _
    rw [ofL_app, ofL_size, List.length_append]; rfl
  have hx := lex_num n hn
  have hy := lex_nought n hn
  refine ⟨30, ?_⟩
  unfold pantrylaw22_LexNumbers.f
  refine bd hd ?_
  refine it (by rw [ofL_size]; omega) (it (by rw [e3]; omega) ?_)
  rw [e1, e2]
  refine bd (congrArg some hx) ?_
  by_cases hg : 9223372036854775807 < n
  · rw [if_pos hg]
    exact it (by omega) (it rfl (it rfl (it rfl (known_t 30 (by omega)))))
  · rw [if_neg hg]
    refine jf (by omega) (bd (congrArg some hy) (it rfl ?_))
    have ew : wrap64 (((ofL (digU 20 n)).size : Int) + 2) = (((digU 20 n).length + 2 : Nat) : Int) := by
      rw [ofL_size, w64 (by omega) (by omega)]; omega
    rw [ew]
    refine bd (mono_le (fun k => pantrylaw22_tokens.mono _ _ k) (tokens_two _ _) 30 (by omega)) (it rfl (it rfl (it rfl (known_t 30 (by omega)))))
end Go.Proofs.Ytgenfggjonhmgaa.Pure
