/- b32: what the reference's parser and its text come to. Own work. -/
import Derived.Test.YtbcogccamagkmaaB32B
namespace Go.Proofs.Ytbcogccamagkmaa.Pure
set_option linter.unusedVariables false
open Go.RowKit Go.Proofs.Ytbcogccamagkmaa.Mb Go.Proofs.Ytbcogccamagkmaa.PL Go.Proofs.YtbcogccamagkmaaW.PrintWords Go.Proofs.YtbcogccamagkmaaW.PrintLast Go.Proofs.YtbcogccamagkmaaW.PrintMore

theorem kdiv (i j : Nat) (h : 5 * i + j < 1000000000) : wrap64 (Int.tdiv (wrap64 (wrap64 (5 * (i : Int)) + (j : Int))) 8) = (((5 * i + j) / 8 : Nat) : Int) := by
  rw [w64 (n := 5 * (i : Int)) (by omega) (by omega), w64 (n := 5 * (i : Int) + (j : Int)) (by omega) (by omega)]
  rw [show 5 * (i : Int) + (j : Int) = ((5 * i + j : Nat) : Int) from by omega, show (8 : Int) = ((8 : Nat) : Int) from rfl, ← Int.ofNat_tdiv]
  exact w64 (by omega) (by omega)
theorem kmod (i j : Nat) (h : 5 * i + j < 1000000000) : IntKind.u64.wrap (Int.tmod (wrap64 (wrap64 (5 * (i : Int)) + (j : Int))) 8) = (((5 * i + j) % 8 : Nat) : Int) := by
  rw [w64 (n := 5 * (i : Int)) (by omega) (by omega), w64 (n := 5 * (i : Int) + (j : Int)) (by omega) (by omega)]
  rw [show 5 * (i : Int) + (j : Int) = ((5 * i + j : Nat) : Int) from by omega, show (8 : Int) = ((8 : Nat) : Int) from rfl, ← Int.ofNat_tmod]
  exact wu64 (by omega) (by omega)
theorem jw (j : Nat) (h : j < 100) : IntKind.u64.wrap (j : Int) = (j : Int) := wu64 (by omega) (by omega)
theorem jw1 (j : Nat) (h : j < 1000000000) : wrap64 ((j : Int) + 1) = ((j + 1 : Nat) : Int) := by rw [w64 (by omega) (by omega)]; omega
theorem bitof (dd j : Nat) (hd : dd < 32) (hj : j < 5) : Go.bits .and .i64 (shr .i64 (dd : Int) (j : Int)) 1 = ((dd / 2 ^ j % 2 : Nat) : Int) := by
  rw [shr_nat .i64 dd j (by show j ≤ 64; omega), i64_and1 _ (by have := Nat.div_le_self dd (2 ^ j); omega)]
theorem pow_kb (i j : Nat) : 2 ^ j * 32 ^ i = 2 ^ ((5 * i + j) % 8) * 256 ^ ((5 * i + j) / 8) := by
  rw [show (256 : Nat) = 2 ^ 8 from rfl, show (32 : Nat) = 2 ^ 5 from rfl, ← Nat.pow_mul, ← Nat.pow_mul, ← Nat.pow_add, ← Nat.pow_add]
  congr 1; omega
theorem byte_small (b : List Int) (hb : B8 b) (q r : Nat) (hq : q < b.length) (hr : r ≤ 8) (hV : V b < 2 ^ r * 256 ^ q) : (b.getD q 0).toNat < 2 ^ r := by
  have h1 := V_get b hb q hq
  have h2 : V b / 256 ^ q < 2 ^ r := by
    rw [Nat.mul_comm] at hV
    exact Nat.div_lt_of_lt_mul hV
  have h3 : V b / 256 ^ q % 256 ≤ V b / 256 ^ q := Nat.mod_le _ _
  omega
theorem step_val (dd j x : Nat) (h : dd / 2 ^ j % 2 = 1) : x + dd % 2 ^ (j + 1) = x + dd % 2 ^ j + 2 ^ j := by
  rw [Nat.pow_succ, Nat.mod_mul, h]; omega
theorem step_zero (dd j : Nat) (h : dd / 2 ^ j % 2 = 0) : dd % 2 ^ (j + 1) = dd % 2 ^ j := by
  rw [Nat.pow_succ, Nat.mod_mul, h]; omega

theorem ref_l1 (s : ByteArray) (n i d dd : Nat) (hn : n ≤ 16777216) (hi : i < s.size) (hsz : s.size < 100000000) (hdd : D s i = (dd : Int)) (h32 : dd < 32)
    (hyp : ∀ (k : Nat) (b : List Int), 7 * d + 40 ≤ k → b.length = n → B8 b → V b = M s (i + 1) → Res s n (pantryref2_Parse.l0 k s (n : Int) b ((i + 1 : Nat) : Int))) :
    ∀ (e j k : Nat) (b : List Int), j + e = 5 → e + 1 + 7 * d + 40 ≤ k → b.length = n → B8 b → V b = M s i + dd % 2 ^ j * 32 ^ i → Res s n (pantryref2_Parse.l1 k s (n : Int) b (i : Int) (dd : Int) (j : Int)) := by
  intro e
  induction e with
  | zero =>
    intro j k b hj hk hl hb hV
    obtain ⟨k, rfl⟩ : ∃ m, k = m + 1 := ⟨k - 1, by omega⟩
    obtain rfl : j = 5 := by omega
    have ew := jw1 i (by omega)
    have e1 : pantryref2_Parse.l1 (k + 1) s (n : Int) b (i : Int) (dd : Int) ((5 : Nat) : Int) = pantryref2_Parse.l0 k s (n : Int) b ((i + 1 : Nat) : Int) := by
      simp only [pantryref2_Parse.l1]
      rw [ew]
      exact jf (by decide) rfl
    rw [e1]
    refine hyp k b (by clear ew e1; omega) hl hb ?_
    rw [hV, M, hdd, Int.toNat_natCast, Nat.mod_eq_of_lt h32]
  | succ e ih =>
    intro j k b hj hk hl hb hV
    obtain ⟨k, rfl⟩ : ∃ m, k = m + 1 := ⟨k - 1, by omega⟩
    have hj5 : j < 5 := by omega
    have c1 : (j : Int) < 5 := by omega
    have c2 : (0 : Int) ≤ (j : Int) := Int.natCast_nonneg _
    have hk2 : e + 1 + 7 * d + 40 ≤ k := by omega
    have hje : j + 1 + e = 5 := by omega
    have hsmall : 5 * i + j < 1000000000 := by omega
    have hq8 : 8 * ((5 * i + j) / 8) + (5 * i + j) % 8 = 5 * i + j := by omega
    have hr8 : (5 * i + j) % 8 < 8 := Nat.mod_lt _ (by decide)
    have hpk := pow_kb i j
    have hq0 : (0 : Int) ≤ (((5 * i + j) / 8 : Nat) : Int) := Int.natCast_nonneg _
    have hr0 : (0 : Int) ≤ (((5 * i + j) % 8 : Nat) : Int) := Int.natCast_nonneg _
    by_cases ht : dd / 2 ^ j % 2 = 0
    · have hz : ((dd / 2 ^ j % 2 : Nat) : Int) = 0 := by omega
      have ew := jw j (by omega)
      have ew1 := jw1 j (by omega)
      have eb := bitof dd j h32 hj5
      have e1 : pantryref2_Parse.l1 (k + 1) s (n : Int) b (i : Int) (dd : Int) (j : Int) = pantryref2_Parse.l1 k s (n : Int) b (i : Int) (dd : Int) ((j + 1 : Nat) : Int) := by
        simp only [pantryref2_Parse.l1]
        rw [ew, eb, ew1]
        exact it c1 (it c2 (it hz rfl))
      rw [e1]
      exact ih (j + 1) k b hje hk2 hl hb (by rw [hV, step_zero dd j ht])
    · have ht1 : dd / 2 ^ j % 2 = 1 := by omega
      have hz : ¬ ((dd / 2 ^ j % 2 : Nat) : Int) = 0 := by omega
      have hge : 2 ^ j ≤ dd := by
        have : 1 ≤ dd / 2 ^ j := by
          have := Nat.mod_le (dd / 2 ^ j) 2
          omega
        have h2 := (Nat.le_div_iff_mul_le (Nat.pow_pos (by decide))).1 this
        omega
      generalize hqq : (5 * i + j) / 8 = q at *
      generalize hrr : (5 * i + j) % 8 = r at *
      by_cases hqn : n ≤ q
      · have c3 : ((q : Nat) : Int) ≥ (n : Int) := by omega
        have ew := jw j (by omega)
        have eb := bitof dd j h32 hj5
        have ek := kdiv i j hsmall
        rw [hqq] at ek
        have e1 : pantryref2_Parse.l1 (k + 1) s (n : Int) b (i : Int) (dd : Int) (j : Int) = some ([], 3) := by
          simp only [pantryref2_Parse.l1]
          rw [ew, eb, ek]
          exact it c1 (it c2 (jf hz (it c3 rfl)))
        rw [e1]
        refine Res.bad (fun ho => ?_)
        have h1 := ho.2
        have h2 := M_le s (show i + 1 ≤ s.size by clear ew eb ek e1; omega)
        have h3 : 2 ^ j * 32 ^ i ≤ M s (i + 1) := by
          rw [M, hdd, Int.toNat_natCast]
          exact Nat.le_trans (Nat.mul_le_mul_right _ hge) (Nat.le_add_left _ _)
        have h4 : 256 ^ n ≤ 2 ^ r * 256 ^ q := Nat.le_trans (Nat.pow_le_pow_right (by decide) hqn) (Nat.le_mul_of_pos_left _ (Nat.pow_pos (by decide)))
        rw [← hpk] at h4
        clear ew eb ek e1
        omega
      · have c3 : ¬ ((q : Nat) : Int) ≥ (n : Int) := by omega
        have c4 : ((q : Nat) : Int) < (b.length : Int) := by omega
        have hqb : q < b.length := by omega
        have hVlt : V b < 2 ^ r * 256 ^ q := by
          rw [← hpk, hV]
          have h1 := M_lt s i
          have h2 : dd % 2 ^ j * 32 ^ i + 32 ^ i ≤ 2 ^ j * 32 ^ i := by
            have := Nat.mod_lt dd (Nat.pow_pos (n := j) (show 0 < 2 by decide))
            have h3 : (dd % 2 ^ j + 1) * 32 ^ i ≤ 2 ^ j * 32 ^ i := Nat.mul_le_mul_right _ (by omega)
            rw [Nat.add_mul, Nat.one_mul] at h3
            exact h3
          omega
        have hbs := byte_small b hb q r hqb (by omega) hVlt
        have hg := hb.getD q
        have hp : 2 ^ r ≤ 2 ^ 7 := Nat.pow_le_pow_right (by decide) (by omega)
        have hor := u8_or_low r (b.getD q 0).toNat hr8 hbs
        rw [Int.toNat_of_nonneg hg.1, ← rd_nat] at hor
        have hB : B8 (b.set q (((b.getD q 0).toNat + 2 ^ r : Nat) : Int)) := hb.set q (Int.natCast_nonneg _) (by omega)
        have hVs := V_set b q (((b.getD q 0).toNat + 2 ^ r : Nat) : Int) hqb hg.1 (by omega)
        rw [Int.toNat_natCast, Nat.add_sub_cancel_left, ← hpk, hV] at hVs
        have ew := jw j (by omega)
        have ew1 := jw1 j (by omega)
        have eb := bitof dd j h32 hj5
        have ek := kdiv i j hsmall
        have em := kmod i j hsmall
        rw [hqq] at ek
        rw [hrr] at em
        have e1 : pantryref2_Parse.l1 (k + 1) s (n : Int) b (i : Int) (dd : Int) (j : Int) = pantryref2_Parse.l1 k s (n : Int) (b.set q (((b.getD q 0).toNat + 2 ^ r : Nat) : Int)) (i : Int) (dd : Int) ((j + 1 : Nat) : Int) := by
          simp only [pantryref2_Parse.l1]
          rw [ew, eb, ek, em, hor, ew1, Int.toNat_natCast]
          exact it c1 (it c2 (jf hz (jf c3 (it hq0 (it c4 (it hr0 rfl))))))
        rw [e1]
        refine ih (j + 1) k _ hje hk2 (by rw [List.length_set]; exact hl) hB ?_
        rw [hVs, Nat.pow_succ, Nat.mod_mul, ht1, Nat.mul_one, Nat.add_mul, Nat.add_assoc]

theorem ref_l0 (s : ByteArray) (n : Nat) (hn : n ≤ 16777216) (hsz : s.size < 100000000) : ∀ (d i k : Nat) (b : List Int), i + d = s.size → 7 * d + 40 ≤ k → b.length = n → B8 b → V b = M s i →
    (∀ j, j < i → 0 ≤ D s j) → Res s n (pantryref2_Parse.l0 k s (n : Int) b (i : Int)) := by
  intro d
  induction d with
  | zero =>
    intro i k b hi hk hl hb hV hD
    obtain ⟨k, rfl⟩ : ∃ m, k = m + 1 := ⟨k - 1, by omega⟩
    obtain rfl : i = s.size := by omega
    have e : pantryref2_Parse.l0 (k + 1) s (n : Int) b (s.size : Int) = some (b, 0) := by
      simp only [pantryref2_Parse.l0]
      exact jf (Int.lt_irrefl _) rfl
    rw [e]
    have := V_lt hb
    rw [hl, hV] at this
    exact Res.good ⟨hD, this⟩ hl hb hV
  | succ d ih =>
    intro i k b hi hk hl hb hV hD
    obtain ⟨k, rfl⟩ : ∃ m, k = m + 1 := ⟨k - 1, by omega⟩
    have c1 : (i : Int) < (s.size : Int) := by omega
    have c2 : (0 : Int) ≤ (s.size : Int) - 1 - (i : Int) := by omega
    have c3 : (s.size : Int) - 1 - (i : Int) < (s.size : Int) := by omega
    have hDr := D_range s i
    have hbt := bt_range s ((s.size : Int) - 1 - (i : Int))
    have hk33 : 33 ≤ k := by omega
    have hvr := val_ref_k hbt.1 (by omega) k hk33
    have hk3 : 5 + 1 + 7 * d + 40 ≤ k := by omega
    have hii : i < s.size := by omega
    have hi1 : i + 1 + d = s.size := by omega
    by_cases hd : D s i < 0
    · have ew : wrap64 (wrap64 ((s.size : Int) - 1) - (i : Int)) = (s.size : Int) - 1 - (i : Int) := by
        rw [w64 (n := (s.size : Int) - 1) (by omega) (by omega)]; exact w64 (by omega) (by omega)
      have e : pantryref2_Parse.l0 (k + 1) s (n : Int) b (i : Int) = some ([], 3) := by
        simp only [pantryref2_Parse.l0]
        rw [ew]
        exact it c1 (it c2 (it c3 (bd hvr (it hd rfl))))
      rw [e]
      exact Res.bad (fun ho => by have h := ho.1 i hii; clear ew e; omega)
    · obtain ⟨dd, hdd⟩ := Int.eq_ofNat_of_zero_le (show 0 ≤ D s i by omega)
      have h32 : dd < 32 := by omega
      have ew : wrap64 (wrap64 ((s.size : Int) - 1) - (i : Int)) = (s.size : Int) - 1 - (i : Int) := by
        rw [w64 (n := (s.size : Int) - 1) (by omega) (by omega)]; exact w64 (by omega) (by omega)
      have e : pantryref2_Parse.l0 (k + 1) s (n : Int) b (i : Int) = pantryref2_Parse.l1 k s (n : Int) b (i : Int) (dd : Int) ((0 : Nat) : Int) := by
        simp only [pantryref2_Parse.l0]
        rw [ew]
        refine it c1 (it c2 (it c3 (bd hvr (jf hd ?_))))
        rw [show val (bt s ((s.size : Int) - 1 - (i : Int))) = D s i from rfl, hdd]
        rfl
      rw [e]
      clear e ew
      refine ref_l1 s n i d dd hn hii hsz hdd h32 ?_ 5 0 k b rfl hk3 hl hb (by rw [hV, Nat.pow_zero, Nat.mod_one, Nat.zero_mul, Nat.add_zero])
      intro k' b' hk' hl' hb' hV'
      refine ih (i + 1) k' b' hi1 hk' hl' hb' hV' (fun j hj => ?_)
      by_cases h : j = i
      · subst h; omega
      · exact hD j (by omega)

theorem refparse_f (s : ByteArray) (n : Nat) (hn : n ≤ 16777216) (hs : s.size = len8 n) (k : Nat) (hk : 7 * s.size + 41 ≤ k) : Res s n (pantryref2_Parse.f k s (n : Int)) := by
  obtain ⟨k, rfl⟩ : ∃ m, k = m + 1 := ⟨k - 1, by omega⟩
  have hsz : s.size < 100000000 := by rw [hs]; unfold len8; omega
  have e : pantryref2_Parse.f (k + 1) s (n : Int) = pantryref2_Parse.l0 k s (n : Int) (List.replicate n 0) ((0 : Nat) : Int) := by
    unfold pantryref2_Parse.f
    refine jf (by omega) ?_
    rw [decide_eq_false (by omega)]
    simp only [pantryref2_Parse.j0]
    refine jf (by simp) (bd (rlen_f n hn) (it (by rw [hs]) (it (Int.natCast_nonneg _) (it (by omega) ?_))))
    rw [Int.toNat_natCast]
    rfl
  rw [e]
  exact ref_l0 s n hn hsz s.size 0 k _ (by omega) (by omega) (by simp) (B8.rep n) (by rw [V_rep]; rfl) (fun j hj => by omega)

/-- what both say of whatever count -/
theorem parses_one (s : ByteArray) (n : Int) (hs : s.size ≤ 600) (hn : -9223372036854775808 ≤ n ∧ n ≤ 9223372036854775807) :
    ∃ r, Ev (fun k => b32_Parse.f k s n) r ∧ Ev (fun k => pantryref2_Parse.f k s n) r ∧
      ((r.2 = 1 ∧ r.1 = []) ∨ (r.2 = 3 ∧ r.1 = []) ∨ (∃ m : Nat, n = (m : Int) ∧ m ≤ 16777216 ∧ s.size = len8 m ∧ Ok s m ∧ r.2 = 0 ∧ r.1.length = m ∧ B8 r.1 ∧ V r.1 = M s s.size)) := by
  by_cases h0 : n < 0
  · refine ⟨([], 1), ⟨1, fun k hk => ?_⟩, ⟨1, fun k hk => ?_⟩, .inl ⟨rfl, rfl⟩⟩
    · obtain ⟨k, rfl⟩ : ∃ m, k = m + 1 := ⟨k - 1, by omega⟩
      unfold b32_Parse.f
      exact it h0 (by simp [b32_Parse.j0])
    · obtain ⟨k, rfl⟩ : ∃ m, k = m + 1 := ⟨k - 1, by omega⟩
      unfold pantryref2_Parse.f
      exact it h0 (by simp [pantryref2_Parse.j0])
  by_cases hb : n > 16777216
  · refine ⟨([], 1), ⟨1, fun k hk => ?_⟩, ⟨1, fun k hk => ?_⟩, .inl ⟨rfl, rfl⟩⟩
    · obtain ⟨k, rfl⟩ : ∃ m, k = m + 1 := ⟨k - 1, by omega⟩
      unfold b32_Parse.f
      refine jf h0 ?_
      rw [decide_eq_true hb]
      simp [b32_Parse.j0]
    · obtain ⟨k, rfl⟩ : ∃ m, k = m + 1 := ⟨k - 1, by omega⟩
      unfold pantryref2_Parse.f
      refine jf h0 ?_
      rw [decide_eq_true hb]
      simp [pantryref2_Parse.j0]
  obtain ⟨m, rfl⟩ := Int.eq_ofNat_of_zero_le (show 0 ≤ n by omega)
  have hm : m ≤ 16777216 := by omega
  by_cases hl : s.size = len8 m
  · have p := fun k (hk : 7 * s.size + 41 ≤ k) => parse_f s m hm hl k (by omega)
    have q := fun k (hk : 7 * s.size + 41 ≤ k) => refparse_f s m hm hl k hk
    by_cases ho : Ok s m
    · obtain ⟨out, hr, h1, h2, h3⟩ := (p _ (Nat.le_refl _)).1 ho
      have hg : Res s m (some (out, 0)) := Res.good ho h1 h2 h3
      exact ⟨(out, 0), ⟨_, fun k hk => (p k hk).one hg⟩, ⟨_, fun k hk => (q k hk).one hg⟩, .inr (.inr ⟨m, rfl, hm, hl, ho, rfl, h1, h2, h3⟩)⟩
    · exact ⟨([], 3), ⟨_, fun k hk => (p k hk).2 ho⟩, ⟨_, fun k hk => (q k hk).2 ho⟩, .inr (.inl ⟨rfl, rfl⟩)⟩
  · have hne : ¬ (s.size : Int) = ((len8 m : Nat) : Int) := by omega
    refine ⟨([], 3), ⟨1, fun k hk => ?_⟩, ⟨1, fun k hk => ?_⟩, .inr (.inl ⟨rfl, rfl⟩)⟩
    · obtain ⟨k, rfl⟩ : ∃ m, k = m + 1 := ⟨k - 1, by omega⟩
      unfold b32_Parse.f
      refine jf h0 ?_
      rw [decide_eq_false hb]
      simp only [b32_Parse.j0]
      exact jf (by simp) (bd (len_f m hm) (jf hne rfl))
    · obtain ⟨k, rfl⟩ : ∃ m, k = m + 1 := ⟨k - 1, by omega⟩
      unfold pantryref2_Parse.f
      refine jf h0 ?_
      rw [decide_eq_false hb]
      simp only [pantryref2_Parse.j0]
      exact jf (by simp) (bd (rlen_f m hm) (jf hne rfl))
end Go.Proofs.Ytbcogccamagkmaa.Pure
