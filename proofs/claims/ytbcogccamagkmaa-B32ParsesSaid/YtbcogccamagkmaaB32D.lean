/- b32: the reference's text; there and back. Own work. -/
import Derived.Test.YtbcogccamagkmaaB32C
namespace Go.Proofs.Ytbcogccamagkmaa.Pure
set_option linter.unusedVariables false
open Go.RowKit Go.Proofs.Ytbcogccamagkmaa.Mb Go.Proofs.Ytbcogccamagkmaa.PL Go.Proofs.YtbcogccamagkmaaW.PrintWords Go.Proofs.YtbcogccamagkmaaW.PrintLast Go.Proofs.YtbcogccamagkmaaW.PrintMore

theorem bit_low (x r : Nat) (hr : r < 8) : x / 2 ^ r % 2 = x % 256 / 2 ^ r % 2 := by
  have : r = 0 ∨ r = 1 ∨ r = 2 ∨ r = 3 ∨ r = 4 ∨ r = 5 ∨ r = 6 ∨ r = 7 := by omega
  rcases this with rfl | rfl | rfl | rfl | rfl | rfl | rfl | rfl <;> simp only [Nat.reducePow] <;> omega
theorem pow_idx (idx : Nat) : 2 ^ idx = 256 ^ (idx / 8) * 2 ^ (idx % 8) := by
  rw [show (256 : Nat) = 2 ^ 8 from rfl, ← Nat.pow_mul, ← Nat.pow_add]
  congr 1; omega
theorem bit_f (b : List Int) (hb : B8 b) (idx : Nat) (hi : idx < 1000000000) (hl : b.length < 1000000000) : pantryref2_bit.f b (idx : Int) = some ((V b / 2 ^ idx % 2 : Nat) : Int) := by
  have hr8 : idx % 8 < 8 := Nat.mod_lt _ (by decide)
  have c0 : (0 : Int) ≤ ((idx / 8 : Nat) : Int) := Int.natCast_nonneg _
  have c1 : (0 : Int) ≤ ((idx % 8 : Nat) : Int) := Int.natCast_nonneg _
  have ed : wrap64 (Int.tdiv (idx : Int) 8) = ((idx / 8 : Nat) : Int) := by
    rw [show (8 : Int) = ((8 : Nat) : Int) from rfl, ← Int.ofNat_tdiv]; exact w64 (by omega) (by omega)
  have em : IntKind.u64.wrap (Int.tmod (idx : Int) 8) = ((idx % 8 : Nat) : Int) := by
    rw [show (8 : Int) = ((8 : Nat) : Int) from rfl, ← Int.ofNat_tmod]; exact wu64 (by omega) (by omega)
  rw [pow_idx, ← Nat.div_div_eq_div_mul]
  generalize hq : idx / 8 = q at *
  generalize hr : idx % 8 = r at *
  unfold pantryref2_bit.f
  rw [ed, em]
  by_cases h : b.length ≤ q
  · have h1 : V b / 256 ^ q = 0 := Nat.div_eq_of_lt (Nat.lt_of_lt_of_le (V_lt hb) (Nat.pow_le_pow_right (by decide) h))
    rw [h1, Nat.zero_div]
    exact it (by clear ed em; omega) rfl
  · have hqb : q < b.length := by clear ed em; omega
    have c2 : ¬ ((q : Nat) : Int) ≥ (b.length : Int) := by clear ed em; omega
    have c3 : ((q : Nat) : Int) < (b.length : Int) := by clear ed em; omega
    have hg := hb.getD q
    have hV := V_get b hb q hqb
    refine jf c2 (it c0 (it c3 (it c1 ?_)))
    have e1 : rd b (q : Int) = (((b.getD q 0).toNat : Nat) : Int) := by rw [rd_nat, Int.toNat_of_nonneg hg.1]
    rw [e1, shr_nat .u8 _ r (by show r ≤ 8; clear ed em; omega)]
    have hlt : (b.getD q 0).toNat / 2 ^ r < 256 := by
      have := Nat.div_le_self (b.getD q 0).toNat (2 ^ r)
      clear ed em e1; omega
    rw [w64n (by clear ed em e1; omega), i64_and1 _ (by clear ed em e1; omega), bit_low (V b / 256 ^ q) r hr8, hV]
theorem idx_w (i j : Nat) (h : 5 * i + j < 1000000000) : wrap64 (wrap64 (5 * (i : Int)) + (j : Int)) = ((5 * i + j : Nat) : Int) := by
  rw [w64 (n := 5 * (i : Int)) (by omega) (by omega), w64 (by omega) (by omega)]; omega
theorem dbl_w (d t : Nat) (h : d < 1000) (ht : t < 1000) : wrap64 (wrap64 (2 * (d : Int)) + (t : Int)) = ((2 * d + t : Nat) : Int) := by
  rw [w64 (n := 2 * (d : Int)) (by omega) (by omega), w64 (by omega) (by omega)]; omega
theorem pred_w (e : Nat) (h : e < 1000000000) : wrap64 (((e + 1 : Nat) : Int) - 1 - 1) = (e : Int) - 1 := by rw [w64 (by omega) (by omega)]; omega
theorem rt_step (m e k : Nat) : 2 * (m / 2 ^ (e + 1) % 2 ^ k) + m / 2 ^ e % 2 = m / 2 ^ e % 2 ^ (k + 1) := by
  rw [Nat.pow_succ, Nat.pow_succ, ← Nat.div_div_eq_div_mul, Nat.mul_comm (2 ^ k) 2, Nat.mod_mul]; omega
theorem rtext_l1 (b : List Int) (hb : B8 b) (hl : b.length ≤ 16777216) (i : Nat) (hi : i < 30000000) (acc : List Int) (r : Option ByteArray) (d0 : Nat) (hacc : acc.length < 140737488355328)
    (hyp : ∀ k, d0 ≤ k → pantryref2_Text.l0 k b (acc ++ [DG ((dig (V b) i : Nat) : Int)]) ((i : Int) - 1) = r) :
    ∀ (e k d : Nat), e ≤ 5 → e + 1 + d0 ≤ k → d = V b / 32 ^ i / 2 ^ e % 2 ^ (5 - e) → pantryref2_Text.l1 k b acc (i : Int) (d : Int) ((e : Int) - 1) = r := by
  intro e
  induction e with
  | zero =>
    intro k d he hk hd
    obtain ⟨k, rfl⟩ : ∃ m, k = m + 1 := ⟨k - 1, by omega⟩
    have hdd : d = dig (V b) i := by rw [hd, Nat.pow_zero, Nat.div_one]; rfl
    have hlt := dig_lt (V b) i
    have hw : wrap64 ((i : Int) - 1) = (i : Int) - 1 := w64 (by omega) (by omega)
    have c1 : ¬ (((0 : Nat) : Int) - 1 ≥ 0) := by decide
    have c2 : (0 : Int) ≤ ((dig (V b) i : Nat) : Int) := Int.natCast_nonneg _
    have c3 : ((dig (V b) i : Nat) : Int) < 32 := by omega
    rw [hdd]
    simp only [pantryref2_Text.l1]
    rw [hw]
    exact jf c1 (it c2 (it c3 (it hacc (hyp k (by clear hw; omega)))))
  | succ e ih =>
    intro k d he hk hd
    obtain ⟨k, rfl⟩ : ∃ m, k = m + 1 := ⟨k - 1, by omega⟩
    have c1 : ((e + 1 : Nat) : Int) - 1 ≥ 0 := by omega
    have hd32 : d < 32 := by
      rw [hd]
      have h1 := Nat.mod_lt (V b / 32 ^ i / 2 ^ (e + 1)) (Nat.pow_pos (n := 5 - (e + 1)) (show 0 < 2 by decide))
      have h2 : 2 ^ (5 - (e + 1)) ≤ 2 ^ 5 := Nat.pow_le_pow_right (by decide) (by omega)
      omega
    have ht : V b / 2 ^ (5 * i + e) % 2 < 2 := Nat.mod_lt _ (by decide)
    have hsm : 5 * i + e < 1000000000 := by omega
    have hke : e + 1 + d0 ≤ k := by omega
    have he5 : e ≤ 5 := by omega
    have hval : 2 * d + V b / 2 ^ (5 * i + e) % 2 = V b / 32 ^ i / 2 ^ e % 2 ^ (5 - e) := by
      have hp : V b / 2 ^ (5 * i + e) = V b / 32 ^ i / 2 ^ e := by
        rw [Nat.div_div_eq_div_mul, show (32 : Nat) = 2 ^ 5 from rfl, ← Nat.pow_mul, ← Nat.pow_add]
      rw [hp, hd, rt_step, show 5 - (e + 1) + 1 = 5 - e from by omega]
    have hbf := bit_f b hb (5 * i + e) hsm (by omega)
    have ew0 : ((e + 1 : Nat) : Int) - 1 = (e : Int) := by omega
    have ep : wrap64 ((e : Int) - 1) = (e : Int) - 1 := w64 (by omega) (by omega)
    have ei := idx_w i e hsm
    have edb := dbl_w d (V b / 2 ^ (5 * i + e) % 2) (by clear ep ei; omega) (by clear ep ei; omega)
    simp only [pantryref2_Text.l1]
    refine it c1 ?_
    rw [ew0, ei, ep]
    refine bd hbf ?_
    rw [edb]
    exact ih k _ he5 hke hval
theorem rtext_l0 (b : List Int) (hb : B8 b) (hl : b.length ≤ 16777216) : ∀ (n k : Nat) (acc : List Int), n < 30000000 → acc.length + n < 140737488355328 → 7 * n + 1 ≤ k →
    pantryref2_Text.l0 k b acc ((n : Int) - 1) = some (strOfNums (acc ++ digits (V b) n)) := by
  intro n
  induction n with
  | zero =>
    intro k acc hn ha hk
    obtain ⟨k, rfl⟩ : ∃ m, k = m + 1 := ⟨k - 1, by omega⟩
    simp only [pantryref2_Text.l0]
    exact jf (by decide) (by simp [digits])
  | succ n ih =>
    intro k acc hn ha hk
    obtain ⟨k, rfl⟩ : ∃ m, k = m + 1 := ⟨k - 1, by omega⟩
    have e0 : ((n + 1 : Nat) : Int) - 1 = (n : Int) := by omega
    have c1 : ((n : Nat) : Int) ≥ 0 := by omega
    simp only [pantryref2_Text.l0]
    rw [e0]
    refine it c1 ?_
    have h := rtext_l1 b hb hl n (by omega) acc (some (strOfNums (acc ++ digits (V b) (n + 1)))) (7 * n + 1) (by omega) (fun k' hk' => by
      rw [ih k' _ (by omega) (by rw [List.length_append, List.length_singleton]; omega) hk', digits_succ, List.append_assoc]
      rfl) 5 k 0 (Nat.le_refl _) (by omega) (by simp [Nat.mod_one])
    exact h
theorem rtext_ev (b : List Int) (hb : B8 b) (hl : b.length ≤ 16777216) : Ev (fun k => pantryref2_Text.f k b) (strOfNums (digits (V b) (len8 b.length))) := by
  refine ⟨7 * len8 b.length + 1, fun k hk => ?_⟩
  have hn8 : len8 b.length < 30000000 := by unfold len8; omega
  have hw : wrap64 (((len8 b.length : Nat) : Int) - 1) = ((len8 b.length : Nat) : Int) - 1 := w64 (by omega) (by omega)
  unfold pantryref2_Text.f
  refine jf (by clear hw; omega) (bd (rlen_f _ hl) ?_)
  rw [hw, rtext_l0 b hb hl _ k [] hn8 (by rw [List.length_nil]; clear hw; omega) (by clear hw; omega)]
  rfl

theorem bt_str (l : List Int) (hb : B8 l) (p : Nat) (hp : p < l.length) : bt (strOfNums l) (p : Int) = l.getD p 0 := by
  have hs : (strOfNums l).size = l.length := strOfNums_size l
  have h := bt_at (strOfNums l) (p : Int) (by rw [Int.toNat_natCast]; omega)
  rw [← h]
  have hg := hb l[p] (List.getElem_mem hp)
  have e : (strOfNums l)[p]'(by omega) = UInt8.ofNat l[p].toNat := by
    show (strOfNums l).data[p]'_ = _
    simp [strOfNums]
  simp only [Int.toNat_natCast]
  rw [e, List.getD_eq_getElem?_getD, List.getElem?_eq_getElem hp]
  simp only [UInt8.toNat_ofNat', Option.getD_some]
  omega
theorem digits_getD (N n p : Nat) (hp : p < n) : (digits N n).getD p 0 = DG ((dig N (n - 1 - p) : Nat) : Int) := by
  rw [List.getD_eq_getElem?_getD, List.getElem?_eq_getElem (by rw [digits_length]; exact hp)]
  simp [digits]
theorem D_digits (N n i : Nat) (hi : i < n) : D (strOfNums (digits N n)) i = ((dig N i : Nat) : Int) := by
  unfold D
  have hs : (strOfNums (digits N n)).size = n := by rw [strOfNums_size, digits_length]
  rw [hs, show (n : Int) - 1 - (i : Int) = ((n - 1 - i : Nat) : Int) from by omega, bt_str _ (digits_B8 N n) _ (by rw [digits_length]; omega), digits_getD N n _ (by omega), show n - 1 - (n - 1 - i) = i from by omega]
  exact val_DG _ (dig_lt N i)
theorem M_digits (N n : Nat) : ∀ i, i ≤ n → M (strOfNums (digits N n)) i = N % 32 ^ i := by
  intro i
  induction i with
  | zero => intro _; simp [M, Nat.mod_one]
  | succ i ih =>
    intro h
    rw [M, ih (by omega), D_digits N n i (by omega), Int.toNat_natCast, Nat.pow_succ, Nat.mod_mul]
    unfold dig
    rw [Nat.mul_comm]
theorem text_parse (b : List Int) (hb : B8 b) (hl : b.length ≤ 16777216) : Ev (fun k => b32_Parse.f k (strOfNums (digits (V b) (len8 b.length))) (b.length : Int)) (b, 0) := by
  have hs : (strOfNums (digits (V b) (len8 b.length))).size = len8 b.length := by rw [strOfNums_size, digits_length]
  have hp : 256 ^ b.length ≤ 32 ^ len8 b.length := by
    rw [show (256 : Nat) = 2 ^ 8 from rfl, show (32 : Nat) = 2 ^ 5 from rfl, ← Nat.pow_mul, ← Nat.pow_mul]
    exact Nat.pow_le_pow_right (by decide) (by unfold len8; omega)
  have hV := V_lt hb
  have hM : M (strOfNums (digits (V b) (len8 b.length))) (strOfNums (digits (V b) (len8 b.length))).size = V b := by
    rw [hs, M_digits _ _ _ (Nat.le_refl _), Nat.mod_eq_of_lt (by omega)]
  refine ⟨len8 b.length + 2, fun k hk => ?_⟩
  have ho : Ok (strOfNums (digits (V b) (len8 b.length))) b.length := by
    refine ⟨fun j hj => ?_, by rw [hM]; exact hV⟩
    rw [D_digits _ _ _ (by omega)]
    exact Int.natCast_nonneg _
  exact (parse_f _ b.length hl hs k (by rw [hs]; omega)).one (Res.good ho rfl hb hM.symm)
theorem M_split (s : ByteArray) (i : Nat) : ∀ d, ∃ r, M s (i + d) = M s i + 32 ^ i * r
  | 0 => ⟨0, by simp⟩
  | d + 1 => by
    obtain ⟨r, hr⟩ := M_split s i d
    refine ⟨r + (D s (i + d)).toNat * 32 ^ d, ?_⟩
    rw [← Nat.add_assoc, M, hr, Nat.pow_add, Nat.mul_add, Nat.add_assoc]
    congr 2
    rw [Nat.mul_left_comm]
theorem dig_M (s : ByteArray) (n i : Nat) (hi : i < n) : dig (M s n) i = (D s i).toNat := by
  obtain ⟨r, hr⟩ := M_split s (i + 1) (n - (i + 1))
  rw [show i + 1 + (n - (i + 1)) = n from by omega] at hr
  unfold dig
  have h1 := M_lt s i
  have hD := D_range s i
  rw [hr, M, Nat.pow_succ, Nat.mul_comm (D s i).toNat, Nat.mul_assoc, Nat.add_assoc, ← Nat.mul_add, Nat.add_mul_div_left _ _ (Nat.pow_pos (by decide)), Nat.div_eq_of_lt h1, Nat.zero_add, Nat.add_mul_mod_self_left]
  exact Nat.mod_eq_of_lt (by omega)
theorem digits_back (s : ByteArray) (hD : ∀ j, j < s.size → 0 ≤ D s j) : (strOfNums (digits (M s s.size) s.size)).toList = s.toList := by
  rw [toList_data, toList_data]
  have hs := size_data s
  apply List.ext_getElem
  · rw [hs, size_data, strOfNums_size, digits_length]
  · intro p h1 h2
    have hp : p < s.size := by omega
    have hbt := bt_range s (p : Int)
    have e1 := bt_str _ (digits_B8 (M s s.size) s.size) p (by rw [digits_length]; exact hp)
    rw [digits_getD _ _ _ hp, dig_M s s.size _ (by omega)] at e1
    have hd := hD (s.size - 1 - p) (by omega)
    rw [Int.toNat_of_nonneg hd] at e1
    unfold D at e1 hd
    rw [show (s.size : Int) - 1 - ((s.size - 1 - p : Nat) : Int) = (p : Int) from by omega] at e1 hd
    rw [val_back hbt.1 (by omega) hd] at e1
    have a1 := bt_at (strOfNums (digits (M s s.size) s.size)) (p : Int) (by rw [Int.toNat_natCast, strOfNums_size, digits_length]; exact hp)
    have a2 := bt_at s (p : Int) (by rw [Int.toNat_natCast]; exact hp)
    rw [e1, ← a2] at a1
    apply UInt8.toNat_inj.1
    have a3 := Int.ofNat.inj a1
    simp only [Int.toNat_natCast] at a3
    exact a3
end Go.Proofs.Ytbcogccamagkmaa.Pure
