/- b32: what the parsers of the program and of the reference come to. Own work. -/
import Derived.Test.YtbcogccamagkmaaMb4
import Derived.Test.YtbcogccamagkmaaB32A
import Derived.Test.YtbcogccamagkmaaSame
namespace Go.Proofs.Ytbcogccamagkmaa.Pure
set_option linter.unusedVariables false
open Go.RowKit Go.Proofs.Ytbcogccamagkmaa.Mb Go.Proofs.Ytbcogccamagkmaa.PL Go.Proofs.YtbcogccamagkmaaW.PrintWords Go.Proofs.YtbcogccamagkmaaW.PrintLast Go.Proofs.YtbcogccamagkmaaW.PrintMore

/-- what a byte counts as a digit; below 0: it is none -/
def val (c : Int) : Int := Lib.indexByte (⟨#[48, 49, 50, 51, 52, 53, 54, 55, 56, 57, 97, 98, 99, 100, 102, 103, 104, 105, 106, 107, 108, 109, 110, 112, 113, 114, 115, 118, 119, 120, 121, 122]⟩ : ByteArray).data.toList c.toNat.toUInt8
theorem val_f (c : Int) : strings_IndexByte.f (⟨#[48, 49, 50, 51, 52, 53, 54, 55, 56, 57, 97, 98, 99, 100, 102, 103, 104, 105, 106, 107, 108, 109, 110, 112, 113, 114, 115, 118, 119, 120, 121, 122]⟩ : ByteArray) c = some (val c) := rfl
theorem val_n : ∀ c : Nat, c < 256 → (-1 ≤ val (c : Int) ∧ val (c : Int) < 32 ∧ (0 ≤ val (c : Int) → DG (val (c : Int)) = (c : Int))) ∧ pantryref2_value.f 33 (c : Int) = some (val (c : Int)) := by decide +kernel
theorem val_range {c : Int} (h0 : 0 ≤ c) (h1 : c < 256) : -1 ≤ val c ∧ val c < 32 := by
  have := (val_n c.toNat (by omega)).1; rw [Int.toNat_of_nonneg h0] at this; exact ⟨this.1, this.2.1⟩
theorem val_back {c : Int} (h0 : 0 ≤ c) (h1 : c < 256) (h : 0 ≤ val c) : DG (val c) = c := by
  have := (val_n c.toNat (by omega)).1; rw [Int.toNat_of_nonneg h0] at this; exact this.2.2 h
theorem val_ref {c : Int} (h0 : 0 ≤ c) (h1 : c < 256) : pantryref2_value.f 33 c = some (val c) := by
  have := (val_n c.toNat (by omega)).2; rwa [Int.toNat_of_nonneg h0] at this
theorem val_ref_k {c : Int} (h0 : 0 ≤ c) (h1 : c < 256) (k : Nat) (hk : 33 ≤ k) : pantryref2_value.f k c = some (val c) := at_rounds (pantryref2_value.mono c) hk (val_ref h0 h1)
theorem val_DG : ∀ d : Nat, d < 32 → val (DG (d : Int)) = (d : Int) := by decide +kernel

/-- what the digit i, from the last, counts -/
def D (s : ByteArray) (i : Nat) : Int := val (bt s ((s.size : Int) - 1 - (i : Int)))
theorem D_range (s : ByteArray) (i : Nat) : -1 ≤ D s i ∧ D s i < 32 := by
  have := bt_range s ((s.size : Int) - 1 - (i : Int))
  exact val_range this.1 (by omega)
/-- what the last i digits count -/
def M (s : ByteArray) : Nat → Nat
  | 0 => 0
  | i + 1 => M s i + (D s i).toNat * 32 ^ i
theorem M_lt (s : ByteArray) (i : Nat) : M s i < 32 ^ i := by
  induction i with
  | zero => simp [M]
  | succ i ih =>
    have := D_range s i
    simp only [M, Nat.pow_succ]
    have h : (D s i).toNat * 32 ^ i ≤ 31 * 32 ^ i := Nat.mul_le_mul_right _ (by omega)
    omega
theorem M_mono (s : ByteArray) (i : Nat) : ∀ d, M s i ≤ M s (i + d)
  | 0 => Nat.le_refl _
  | d + 1 => Nat.le_trans (M_mono s i d) (Nat.le_add_right _ _)
theorem M_le (s : ByteArray) {i j : Nat} (h : i ≤ j) : M s i ≤ M s j := by have := M_mono s i (j - i); rwa [Nat.add_sub_cancel' h] at this
/-- what may be read -/
def Ok (s : ByteArray) (n : Nat) : Prop := (∀ j, j < s.size → 0 ≤ D s j) ∧ M s s.size < 256 ^ n
def Res (s : ByteArray) (n : Nat) (r : Option (List Int × Int)) : Prop :=
  (Ok s n → ∃ out, r = some (out, 0) ∧ out.length = n ∧ B8 out ∧ V out = M s s.size) ∧ (¬ Ok s n → r = some ([], 3))
theorem Res.bad {s : ByteArray} {n : Nat} (h : ¬ Ok s n) : Res s n (some ([], 3)) := ⟨fun k => absurd k h, fun _ => rfl⟩
theorem Res.good {s : ByteArray} {n : Nat} {out : List Int} (h : Ok s n) (hl : out.length = n) (hb : B8 out) (hv : V out = M s s.size) : Res s n (some (out, 0)) := ⟨fun _ => ⟨out, rfl, hl, hb, hv⟩, fun k => absurd h k⟩
theorem Res.one {s : ByteArray} {n : Nat} {r q : Option (List Int × Int)} (h : Res s n r) (k : Res s n q) : r = q := by
  by_cases ho : Ok s n
  · obtain ⟨a, ha, h1, h2, h3⟩ := h.1 ho
    obtain ⟨b, hb, k1, k2, k3⟩ := k.1 ho
    rw [ha, hb, V_inj h2 k2 (by omega) (by omega)]
  · rw [h.2 ho, k.2 ho]

theorem pow_split (q hv i : Nat) (h : hv + 8 * q = 5 * i) : 32 ^ i = 256 ^ q * 2 ^ hv := by
  rw [show (256 : Nat) = 2 ^ 8 from rfl, show (32 : Nat) = 2 ^ 5 from rfl, ← Nat.pow_mul, ← Nat.pow_mul, ← Nat.pow_add]
  congr 1; omega
theorem M_div (s : ByteArray) (q hv i : Nat) (h : hv + 8 * q = 5 * i) : M s (i + 1) / 256 ^ q = M s i / 256 ^ q + (D s i).toNat * 2 ^ hv := by
  simp only [M]
  rw [pow_split q hv i h, Nat.mul_left_comm, Nat.add_mul_div_left _ _ (Nat.pow_pos (by decide))]
theorem M_mod (s : ByteArray) (q hv i : Nat) (h : hv + 8 * q = 5 * i) : M s (i + 1) % 256 ^ q = M s i % 256 ^ q := by
  simp only [M]
  rw [pow_split q hv i h, Nat.mul_left_comm, Nat.add_mul_mod_self_left]
theorem M_bits (s : ByteArray) (q hv i : Nat) (h : hv + 8 * q = 5 * i) : M s i / 256 ^ q < 2 ^ hv := by
  have := M_lt s i
  rw [pow_split q hv i h] at this
  exact Nat.div_lt_of_lt_mul this
theorem sum_bound {x d hv : Nat} (hx : x < 2 ^ hv) (hd : d < 32) (h7 : hv ≤ 7) : x + d * 2 ^ hv < 4096 := by
  have h : 2 ^ hv ≤ 2 ^ 7 := Nat.pow_le_pow_right (by decide) h7
  have h2 : d * 2 ^ hv ≤ 31 * 2 ^ hv := Nat.mul_le_mul_right _ (by omega)
  omega
theorem or_shl (x d hv : Nat) (hx : x < 2 ^ hv) (hd : d < 32) (h7 : hv ≤ 7) (y : Int) (hy : y = (d : Int)) : Go.bits .or .u32 (x : Int) (shl .u32 (y % 4294967296) (hv : Int)) = ((x + d * 2 ^ hv : Nat) : Int) := by
  have hb := sum_bound hx hd h7
  rw [hy, show (d : Int) % 4294967296 = (d : Int) from by omega, shl_u32 _ _ (by omega) (by omega), u32_or_low _ _ _ hx (by omega)]
theorem pr1 (p : Nat) : wrap64 ((p : Int) - 1) = (p : Int) - 1 ∨ 9223372036854775807 < p := by
  by_cases h : p ≤ 9223372036854775807
  · exact .inl (w64 (by omega) (by omega))
  · exact .inr (by omega)
theorem pr2 (hv : Nat) (h : hv ≤ 7) : IntKind.u64.wrap ((hv : Int) + 5) = ((hv + 5 : Nat) : Int) := by rw [wu64 (by omega) (by omega)]; omega
theorem pr3 (hv : Nat) (h : hv ≤ 7) (h3 : 3 ≤ hv) : IntKind.u64.wrap (((hv + 5 : Nat) : Int) - 8) = ((hv - 3 : Nat) : Int) := by rw [wu64 (by omega) (by omega)]; omega
theorem cmod (x : Nat) : ((x : Int) % 256) = ((x % 256 : Nat) : Int) := by omega
theorem cdiv8 (x : Nat) : ((x : Int) / 256) = ((x / 256 : Nat) : Int) := by omega

theorem parse_l0 (s : ByteArray) (n : Nat) (hn : n ≤ 16777216) (hs1 : 5 * s.size ≤ 8 * n + 4) (hs2 : 8 * n ≤ 5 * s.size) : ∀ (d i hv q k : Nat) (out : List Int),
    i + d = s.size → d < k → hv + 8 * q = 5 * i → hv ≤ 7 → out.length = q → B8 out → V out = M s i % 256 ^ q → (∀ j, j < i → 0 ≤ D s j) →
    Res s n (b32_Parse.l0 k s (n : Int) out ((M s i / 256 ^ q : Nat) : Int) (hv : Int) ((s.size : Int) - 1 - (i : Int))) := by
  intro d
  induction d with
  | zero =>
    intro i hv q k out hi hk hq h7 hol hb hV hD
    obtain ⟨k, rfl⟩ : ∃ m, k = m + 1 := ⟨k - 1, by omega⟩
    obtain rfl : i = s.size := by omega
    obtain rfl : q = n := by omega
    have e : b32_Parse.l0 (k + 1) s (q : Int) out ((M s s.size / 256 ^ q : Nat) : Int) (hv : Int) ((s.size : Int) - 1 - (s.size : Int)) = if ((M s s.size / 256 ^ q : Nat) : Int) = 0 then some (out, 0) else some ([], 3) := by
      simp only [b32_Parse.l0]
      exact jf (by omega) rfl
    rw [e]
    by_cases h0 : M s s.size < 256 ^ q
    · rw [Nat.div_eq_of_lt h0]
      exact Res.good ⟨hD, h0⟩ hol hb (by rw [hV, Nat.mod_eq_of_lt h0])
    · have h1 : M s s.size / 256 ^ q ≠ 0 := fun h => h0 ((Nat.div_eq_zero_iff_lt (Nat.pow_pos (by decide))).1 h)
      rw [if_neg (by omega)]
      exact Res.bad (fun ho => h0 ho.2)
  | succ d ih =>
    intro i hv q k out hi hk hq h7 hol hb hV hD
    obtain ⟨k, rfl⟩ : ∃ m, k = m + 1 := ⟨k - 1, by omega⟩
    have c1 : (s.size : Int) - 1 - (i : Int) ≥ 0 := by omega
    have c2 : (s.size : Int) - 1 - (i : Int) < (s.size : Int) := by omega
    have c3 : (0 : Int) ≤ (hv : Int) := Int.natCast_nonneg _
    have hDi := D_range s i
    by_cases hd : D s i < 0
    · have e : b32_Parse.l0 (k + 1) s (n : Int) out ((M s i / 256 ^ q : Nat) : Int) (hv : Int) ((s.size : Int) - 1 - (i : Int)) = some ([], 3) := by
        simp only [b32_Parse.l0]
        exact it c1 (it c1 (it c2 (bd (val_f _) (it hd rfl))))
      rw [e]
      exact Res.bad (fun ho => by have := ho.1 i (by omega); omega)
    · have hD' : ∀ j, j < i + 1 → 0 ≤ D s j := fun j hj => by
        by_cases h : j = i
        · subst h; omega
        · exact hD j (by omega)
      have hx := M_bits s q hv i hq
      have e0 := M_div s q hv i hq
      have e1 := or_shl (M s i / 256 ^ q) (D s i).toNat hv hx (by omega) h7 (D s i) (by omega)
      rw [← e0] at e1
      have e2 := pr2 hv h7
      have hpos : wrap64 ((s.size : Int) - 1 - (i : Int) - 1) = (s.size : Int) - 1 - ((i + 1 : Nat) : Int) := by rw [w64 (by omega) (by omega)]; omega
      have hVm := M_mod s q hv i hq
      by_cases h3 : 3 ≤ hv
      · have hqn : q < n := by omega
        have e3 := pr3 hv h7 h3
        have c4 : ((hv + 5 : Nat) : Int) ≥ 8 := by omega
        have c5 : (out.length : Int) < (n : Int) := by omega
        have c6 : out.length < 140737488355328 := by omega
        have e : b32_Parse.l0 (k + 1) s (n : Int) out ((M s i / 256 ^ q : Nat) : Int) (hv : Int) ((s.size : Int) - 1 - (i : Int)) =
            b32_Parse.l0 k s (n : Int) (out ++ [((M s (i + 1) / 256 ^ q % 256 : Nat) : Int)]) ((M s (i + 1) / 256 ^ (q + 1) : Nat) : Int) ((hv - 3 : Nat) : Int) ((s.size : Int) - 1 - ((i + 1 : Nat) : Int)) := by
          simp only [b32_Parse.l0]
          refine it c1 (it c1 (it c2 (bd (val_f _) (jf hd (it c3 (it (by rw [e2]; exact c4) (it c5 (it c6 ?_))))))))
          rw [show val (bt s ((s.size : Int) - 1 - (i : Int))) = D s i from rfl, e1, e2, e3, hpos, cmod, cdiv8, Nat.div_div_eq_div_mul, ← Nat.pow_succ]
        rw [e]
        have hm : M s (i + 1) / 256 ^ q % 256 < 256 := Nat.mod_lt _ (by decide)
        refine ih (i + 1) (hv - 3) (q + 1) k _ (by omega) (by omega) (by omega) (by omega) (by simp [hol]) (hb.append (B8.one (Int.natCast_nonneg _) (by omega))) ?_ hD'
        rw [V_append, hV, hol, ← hVm, Nat.pow_succ, Nat.mod_mul, V_one]
      · have e : b32_Parse.l0 (k + 1) s (n : Int) out ((M s i / 256 ^ q : Nat) : Int) (hv : Int) ((s.size : Int) - 1 - (i : Int)) =
            b32_Parse.l0 k s (n : Int) out ((M s (i + 1) / 256 ^ q : Nat) : Int) ((hv + 5 : Nat) : Int) ((s.size : Int) - 1 - ((i + 1 : Nat) : Int)) := by
          have c4 : ¬ ((hv + 5 : Nat) : Int) ≥ 8 := by omega
          simp only [b32_Parse.l0]
          refine it c1 (it c1 (it c2 (bd (val_f _) (jf hd (it c3 (jf (by rw [e2]; exact c4) ?_))))))
          rw [show val (bt s ((s.size : Int) - 1 - (i : Int))) = D s i from rfl, e1, e2, hpos]
        rw [e]
        exact ih (i + 1) (hv + 5) q k _ (by omega) (by omega) (by omega) (by omega) hol hb (by rw [hV, hVm]) hD'

theorem parse_f (s : ByteArray) (n : Nat) (hn : n ≤ 16777216) (hs : s.size = len8 n) (k : Nat) (hk : s.size + 1 < k) : Res s n (b32_Parse.f k s (n : Int)) := by
  obtain ⟨k, rfl⟩ : ∃ m, k = m + 1 := ⟨k - 1, by omega⟩
  have h1 : 5 * s.size ≤ 8 * n + 4 := by rw [hs]; unfold len8; omega
  have h2 : 8 * n ≤ 5 * s.size := by rw [hs]; unfold len8; omega
  have e : b32_Parse.f (k + 1) s (n : Int) = b32_Parse.l0 k s (n : Int) [] ((M s 0 / 256 ^ 0 : Nat) : Int) ((0 : Nat) : Int) ((s.size : Int) - 1 - ((0 : Nat) : Int)) := by
    unfold b32_Parse.f
    refine jf (by omega) ?_
    rw [decide_eq_false (by omega)]
    simp only [b32_Parse.j0]
    refine jf (by simp) (bd (len_f n hn) (it (by rw [hs]) (it (Int.natCast_nonneg _) (it (by omega) ?_))))
    rw [w64 (by omega) (by omega)]
    simp [M]
  rw [e]
  exact parse_l0 s n hn h1 h2 s.size 0 0 0 k [] (by omega) (by omega) (by omega) (by omega) rfl B8.nil (by simp [V, Nat.mod_one]) (fun j hj => by omega)
end Go.Proofs.Ytbcogccamagkmaa.Pure
