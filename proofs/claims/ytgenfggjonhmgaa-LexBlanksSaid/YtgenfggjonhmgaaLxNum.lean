/- lex: numbers in decimal digits. Own work. -/
import Derived.Test.YtgenfggjonhmgaaLxJ
namespace Go.Proofs.Ytgenfggjonhmgaa.Lx
set_option linter.unusedVariables false
set_option linter.unusedSimpArgs false
open Go.RowKit Go.Proofs.Ytgenfggjonhmgaa.Ml Go.Proofs.Ytgenfggjonhmgaa.PL Go.Proofs.YtgenfggjonhmgaaW.PrintWords Go.Proofs.YtgenfggjonhmgaaW.PrintLast Go.Proofs.YtgenfggjonhmgaaW.PrintMore
/-! ### texts as lists of bytes -/
theorem ba_ext {a b : ByteArray} (h : a.data.toList = b.data.toList) : a = b := by
  cases a; cases b; congr 1; exact Array.ext' h
def ofL (l : List UInt8) : ByteArray := ⟨l.toArray⟩
theorem ofL_data (l : List UInt8) : (ofL l).data.toList = l := rfl
theorem ofL_size (l : List UInt8) : (ofL l).size = l.length := by rw [← data_length]; rfl
theorem ofL_app (a b : List UInt8) : ofL a ++ ofL b = ofL (a ++ b) := by
  apply ba_ext
  rw [ByteArray.data_append, Array.toList_append]; rfl
theorem ofL_of (s : ByteArray) : ofL s.data.toList = s := ba_ext rfl
theorem ofL_extract (l : List UInt8) (a b : Nat) : (ofL l).extract a b = ofL ((l.drop a).take (b - a)) := by
  apply ba_ext
  rw [Lib.extract_data]; rfl
/-- a byte as a number -/
def bI (c : UInt8) : Int := (c.toNat : Int)
theorem bytesOf_ofL (l : List UInt8) : bytesOf (ofL l) = l.map bI := rfl
/-! ### how the run goes -/
theorem run_step {s : ByteArray} {n : Nat} {x : LS} (h : goesOn s x = true) : runS s (n + 1) x = runS s n (stepS s x) := by rw [runS, if_pos h]
theorem goes_in {s : ByteArray} {x : LS} (hw : x.wr < 0) (hi : x.i < s.size) : goesOn s x = true := by
  unfold goesOn; rw [decide_eq_true hw, decide_eq_true hi]; rfl
theorem goes_bad {s : ByteArray} {x : LS} (hw : 0 ≤ x.wr) : goesOn s x = false := by
  unfold goesOn; rw [decide_eq_false (by omega)]; rfl
theorem goes_end {s : ByteArray} {x : LS} (hi : s.size ≤ x.i) (hm : x.m.length ≤ 1) : goesOn s x = false := by
  unfold goesOn; rw [decide_eq_false (show ¬ x.i < s.size by omega), decide_eq_false (show ¬ 1 < x.m.length by omega)]; simp
theorem run_stop {s : ByteArray} {n : Nat} {x : LS} (h : goesOn s x = false) : runS s n x = x := by
  cases n with
  | zero => rfl
  | succ n => rw [runS, if_neg (by rw [h]; decide)]
theorem lexS_of {s : ByteArray} {y : LS} (h : s.size ≤ 16384) (e : endS s = y) : lexS s = if 0 ≤ y.wr then ([], y.wr, 24) else (y.l ++ [⟨9, ⟨#[]⟩, (s.size : Int)⟩], 0, 0) := by
  unfold lexS; rw [if_neg (by omega), e]
theorem step_code {s : ByteArray} {x : LS} (hi : x.i < s.size) (ht : (topM x.m).f0 = false) : stepS s x = codeS s x := by
  unfold stepS; rw [if_neg (by omega), if_neg (by rw [ht]; decide)]
theorem step_text {s : ByteArray} {x : LS} (hi : x.i < s.size) (ht : (topM x.m).f0 = true) : stepS s x = textS s x := by
  unfold stepS; rw [if_neg (by omega), if_pos ht]
theorem code_blank {s : ByteArray} {x : LS} (h : (bytesOf s).getD x.i 0 = 32 ∨ (bytesOf s).getD x.i 0 = 9 ∨ (bytesOf s).getD x.i 0 = 10 ∨ (bytesOf s).getD x.i 0 = 13) : codeS s x = ⟨x.i + 1, x.l, x.m, x.wr⟩ := by
  unfold codeS; simp only; rw [if_pos h]
theorem dig_facts {c : Int} (h : isDig c = true) : 48 ≤ c ∧ c ≤ 57 := by
  unfold isDig at h
  rw [Bool.and_eq_true, decide_eq_true_eq, decide_eq_true_eq] at h
  exact h
theorem let_facts {c : Int} (h : isLet c = true) : (97 ≤ c ∧ c ≤ 122) ∨ (65 ≤ c ∧ c ≤ 90) ∨ c = 95 := by
  unfold isLet at h
  rw [Bool.or_eq_true, Bool.or_eq_true, Bool.and_eq_true, Bool.and_eq_true, decide_eq_true_eq, decide_eq_true_eq, decide_eq_true_eq, decide_eq_true_eq, beq_iff_eq] at h
  omega
theorem code_dig {s : ByteArray} {x : LS} (h : isDig ((bytesOf s).getD x.i 0) = true) : codeS s x = numberS s x := by
  have h1 := dig_facts h
  have h2 : ¬ isLet ((bytesOf s).getD x.i 0) = true := fun hl => by have := let_facts hl; omega
  unfold codeS
  simp only
  rw [if_neg (by omega), if_neg (by omega), if_neg h2, if_pos h]
theorem numberS_ok {s : ByteArray} {i : Nat} {l : List S28} {m : List S42} {w : Int} (h : ¬ numBad s i) : numberS s ⟨i, l, m, w⟩ = ⟨runTo isDig (bytesOf s) i, l ++ [⟨1, numT s i, (i : Int)⟩], m, w⟩ := if_neg h
theorem numberS_no {s : ByteArray} {i : Nat} {l : List S28} {m : List S42} {w : Int} (h : numBad s i) : numberS s ⟨i, l, m, w⟩ = ⟨runTo isDig (bytesOf s) i, l, m, i⟩ := if_pos h
theorem code_let {s : ByteArray} {x : LS} (h : isLet ((bytesOf s).getD x.i 0) = true) : codeS s x = nameS s x := by
  have h1 := let_facts h
  unfold codeS
  simp only
  rw [if_neg (by omega), if_neg (by omega), if_pos h]
theorem code_quote {s : ByteArray} {x : LS} (h : (bytesOf s).getD x.i 0 = 34) : codeS s x = opensS x := by
  unfold codeS
  simp only [h]
  rw [if_neg (by decide), if_neg (by decide), if_neg (by decide), if_neg (by decide), if_pos trivial]
/-- a run of bytes of a kind, and one that is none behind it -/
theorem runTo_block (p : Int → Bool) (a d b : List Int) (hd : ∀ c ∈ d, p c = true) (hb : ∀ c t, b = c :: t → p c = false) : runTo p (a ++ (d ++ b)) a.length = a.length + d.length := by
  unfold runTo
  rw [List.drop_left]
  congr 1
  rw [List.takeWhile_append_of_pos hd, List.length_append]
  have : b.takeWhile p = [] := by
    cases b with
    | nil => rfl
    | cons c t => rw [List.takeWhile_cons, hb c t rfl]; rfl
  rw [this]; rfl
/-! ### digits -/
def digU : Nat → Nat → List UInt8
  | 0, _ => []
  | k + 1, n => (if n / 10 = 0 then [] else digU k (n / 10)) ++ [UInt8.ofNat (48 + n % 10)]
/-- what digits say, the highest first -/
def vD : List UInt8 → Nat
  | [] => 0
  | c :: l => (c.toNat - 48) * 10 ^ l.length + vD l
def isD (l : List UInt8) : Prop := ∀ c ∈ l, 48 ≤ c.toNat ∧ c.toNat ≤ 57
theorem vD_app (l : List UInt8) (c : UInt8) : vD (l ++ [c]) = 10 * vD l + (c.toNat - 48) := by
  induction l with
  | nil => simp [vD]
  | cons b l ih =>
    rw [List.cons_append, vD, vD, ih, List.length_append, List.length_singleton, Nat.pow_succ, Nat.mul_add]
    rw [Nat.mul_comm (10 ^ l.length) 10, Nat.mul_left_comm]; omega
theorem vD_lt {l : List UInt8} (h : isD l) : vD l < 10 ^ l.length := by
  induction l with
  | nil => simp [vD]
  | cons c l ih =>
    have h1 := ih (fun d hd => h d (List.mem_cons_of_mem _ hd))
    have h2 := h c List.mem_cons_self
    rw [vD, List.length_cons, Nat.pow_succ]
    have : (c.toNat - 48) * 10 ^ l.length ≤ 9 * 10 ^ l.length := Nat.mul_le_mul_right _ (by omega)
    omega
theorem dig_byte (n : Nat) : (UInt8.ofNat (48 + n % 10)).toNat = 48 + n % 10 := by
  rw [UInt8.toNat_ofNat']; exact Nat.mod_eq_of_lt (by omega)
theorem digU_ok : ∀ (k n : Nat), n < 10 ^ k → isD (digU k n) ∧ vD (digU k n) = n ∧ (digU k n).length ≤ k := by
  intro k
  induction k with
  | zero => intro n h; simp at h; subst h; exact ⟨fun c hc => by simp [digU] at hc, rfl, Nat.le_refl _⟩
  | succ k ih =>
    intro n h
    have h10 : n / 10 < 10 ^ k := by rw [Nat.pow_succ] at h; omega
    have hb := dig_byte n
    rw [digU]
    by_cases h0 : n / 10 = 0
    · rw [if_pos h0, List.nil_append]
      refine ⟨fun c hc => ?_, ?_, by simp⟩
      · rw [List.mem_singleton] at hc; subst hc; omega
      · rw [vD, hb]; simp [vD]; omega
    · rw [if_neg h0]
      obtain ⟨h1, h2, h3⟩ := ih _ h10
      refine ⟨fun c hc => ?_, ?_, by rw [List.length_append, List.length_singleton]; omega⟩
      · rcases List.mem_append.1 hc with hc | hc
        · exact h1 c hc
        · rw [List.mem_singleton] at hc; subst hc; omega
      · rw [vD_app, h2, hb]; omega
theorem digU_head : ∀ (k n : Nat), n < 10 ^ k → 0 < n → ∃ c l, digU k n = c :: l ∧ 49 ≤ c.toNat := by
  intro k
  induction k with
  | zero => intro n h h0; simp at h; omega
  | succ k ih =>
    intro n h hn
    have h10 : n / 10 < 10 ^ k := by rw [Nat.pow_succ] at h; omega
    have hb := dig_byte n
    rw [digU]
    by_cases h0 : n / 10 = 0
    · rw [if_pos h0, List.nil_append]
      exact ⟨_, [], rfl, by omega⟩
    · rw [if_neg h0]
      obtain ⟨c, l, h1, h2⟩ := ih _ h10 (by omega)
      exact ⟨c, l ++ [_], by rw [h1]; rfl, h2⟩
theorem less_iff : ∀ (a b : List UInt8), a.length = b.length → isD a → isD b → (Op.bytesLess a b = true ↔ vD a < vD b) := by
  intro a
  induction a with
  | nil => intro b h _ _; cases b with
    | nil => simp [Op.bytesLess, vD]
    | cons c b => simp at h
  | cons x a ih => intro b h ha hb; cases b with
    | nil => simp at h
    | cons y b =>
      have hl : a.length = b.length := by simpa using h
      have ha' : isD a := fun d hd => ha d (List.mem_cons_of_mem _ hd)
      have hb' : isD b := fun d hd => hb d (List.mem_cons_of_mem _ hd)
      have h1 := ha x List.mem_cons_self
      have h2 := hb y List.mem_cons_self
      have v1 := vD_lt ha'
      have v2 := vD_lt hb'
      have hi := ih b hl ha' hb'
      rw [Op.bytesLess, vD, vD, Bool.or_eq_true, Bool.and_eq_true, decide_eq_true_eq, beq_iff_eq, hi, hl, UInt8.lt_iff_toNat_lt]
      rw [hl] at v1
      obtain ⟨p, hp⟩ : ∃ p, 10 ^ b.length = p := ⟨_, rfl⟩
      rw [hp] at v1 v2 ⊢
      constructor
      · rintro (h | ⟨rfl, h⟩)
        · have : (x.toNat - 48 + 1) * p ≤ (y.toNat - 48) * p := Nat.mul_le_mul_right _ (by omega)
          rw [Nat.add_mul] at this
          omega
        · omega
      · intro h
        rcases Nat.lt_trichotomy x.toNat y.toNat with hxy | hxy | hxy
        · exact .inl hxy
        · rw [hxy] at h
          exact .inr ⟨UInt8.toNat_inj.1 hxy, by omega⟩
        · exfalso
          have : (y.toNat - 48 + 1) * p ≤ (x.toNat - 48) * p := Nat.mul_le_mul_right _ (by omega)
          rw [Nat.add_mul] at this
          omega
theorem vD_inj : ∀ (a b : List UInt8), a.length = b.length → isD a → isD b → vD a = vD b → a = b := by
  intro a
  induction a with
  | nil => intro b h _ _ _; cases b with
    | nil => rfl
    | cons c b => simp at h
  | cons x a ih => intro b h ha hb hv; cases b with
    | nil => simp at h
    | cons y b =>
      have hl : a.length = b.length := by simpa using h
      have ha' : isD a := fun d hd => ha d (List.mem_cons_of_mem _ hd)
      have hb' : isD b := fun d hd => hb d (List.mem_cons_of_mem _ hd)
      have h1 := ha x List.mem_cons_self
      have h2 := hb y List.mem_cons_self
      have v1 := vD_lt ha'
      have v2 := vD_lt hb'
      rw [vD, vD, hl] at hv
      rw [hl] at v1
      obtain ⟨p, hp⟩ : ∃ p, 10 ^ b.length = p := ⟨_, rfl⟩
      rw [hp] at v1 v2 hv
      have hxy : x.toNat = y.toNat := by
        rcases Nat.lt_trichotomy x.toNat y.toNat with hxy | hxy | hxy
        · have : (x.toNat - 48 + 1) * p ≤ (y.toNat - 48) * p := Nat.mul_le_mul_right _ (by omega)
          rw [Nat.add_mul] at this
          omega
        · exact hxy
        · have : (y.toNat - 48 + 1) * p ≤ (x.toNat - 48) * p := Nat.mul_le_mul_right _ (by omega)
          rw [Nat.add_mul] at this
          omega
      rw [hxy] at hv
      rw [UInt8.toNat_inj.1 hxy, ih b hl ha' hb' (by omega)]
theorem mostInt_v : vD mostInt.data.toList = 9223372036854775807 ∧ isD mostInt.data.toList ∧ mostInt.data.toList.length = 19 := ⟨by decide, by unfold isD; decide, by decide⟩
theorem great_iff (n : Nat) (h : n < 10 ^ 20) : great (ofL (digU 20 n)) = decide (9223372036854775807 < n) := by
  obtain ⟨h1, h2, h3⟩ := digU_ok 20 n h
  obtain ⟨m1, m2, m3⟩ := mostInt_v
  have hlt := vD_lt h1
  have hlo : 0 < n → 10 ^ ((digU 20 n).length - 1) ≤ n := fun hn => by
    obtain ⟨c, l, e, hc⟩ := digU_head 20 n h hn
    have hv := h2
    rw [e, vD] at hv
    rw [e, List.length_cons, Nat.add_sub_cancel]
    have : 1 * 10 ^ l.length ≤ (c.toNat - 48) * 10 ^ l.length := Nat.mul_le_mul_right _ (by omega)
    omega
  rw [h2] at hlt
  unfold great
  rw [ofL_size, toList_data, toList_data, ofL_data]
  rcases Nat.lt_trichotomy (digU 20 n).length 19 with hL | hL | hL
  · rw [decide_eq_false (by omega), decide_eq_false (by omega), Bool.false_and, Bool.false_or]
    have : n < 10 ^ 18 := Nat.lt_of_lt_of_le hlt (Nat.pow_le_pow_right (by decide) (by omega))
    rw [decide_eq_false (by omega)]
  · rw [hL, decide_eq_false (by omega), decide_eq_true rfl, Bool.true_and, Bool.false_or]
    have hl := less_iff (digU 20 n) mostInt.data.toList (by rw [hL, m3]) h1 m2
    have he : (digU 20 n == mostInt.data.toList) = decide (n = 9223372036854775807) := by
      rw [Bool.eq_iff_iff, beq_iff_eq, decide_eq_true_eq]
      constructor
      · intro e; rw [← h2, e, m1]
      · intro e; exact vD_inj _ _ (by rw [hL, m3]) h1 m2 (by rw [h2, m1]; exact e)
    rw [h2, m1] at hl
    rw [he, Bool.eq_iff_iff, Bool.not_eq_true', decide_eq_true_eq]
    rw [Bool.or_eq_false_iff, decide_eq_false_iff_not, ← Bool.not_eq_true, hl]
    omega
  · rw [decide_eq_true hL, Bool.true_or]
    have hn : 0 < n := by
      rcases Nat.eq_zero_or_pos n with h0 | h0
      · rw [h0] at hL; exact absurd hL (by decide)
      · exact h0
    have := hlo hn
    have : 10 ^ 19 ≤ 10 ^ ((digU 20 n).length - 1) := Nat.pow_le_pow_right (by decide) (by omega)
    rw [decide_eq_true (by omega)]
theorem digU_zero : digU 20 0 = [48] := by decide
theorem digU_pos (n : Nat) : 0 < (digU 20 n).length := by rw [digU, List.length_append, List.length_singleton]; omega
/-- a nought ahead: the digits are that nought alone -/
theorem digU_nought (n : Nat) (h : n < 10 ^ 20) (hc : ((digU 20 n).map bI).getD 0 0 = 48) : (digU 20 n).length = 1 := by
  rcases Nat.eq_zero_or_pos n with h0 | h0
  · rw [h0, digU_zero]; rfl
  · obtain ⟨c, l, e, h1⟩ := digU_head 20 n h h0
    rw [e, List.map_cons, List.getD_cons_zero] at hc
    unfold bI at hc
    omega
theorem dig_all {l : List UInt8} (h : isD l) : ∀ c ∈ l.map bI, isDig c = true := by
  intro c hc
  obtain ⟨d, hd, rfl⟩ := List.mem_map.1 hc
  have := h d hd
  unfold isDig bI
  rw [Bool.and_eq_true, decide_eq_true_eq, decide_eq_true_eq]; omega
/-- the first statement's text: a blank, digits, a blank -/
theorem lex_num (n : Nat) (h : n < 10 ^ 20) : lexS (ofL ([32] ++ (digU 20 n ++ [32]))) = if 9223372036854775807 < n then ([], 1, 24) else ([⟨1, ofL (digU 20 n), 1⟩, ⟨9, ⟨#[]⟩, ((digU 20 n).length + 2 : Nat)⟩], 0, 0) := by
  have hg := great_iff n h
  obtain ⟨h1, -, h3⟩ := digU_ok 20 n h
  have hp := digU_pos n
  have hz := digU_nought n h
  generalize digU 20 n = D at *
  obtain ⟨s, hs⟩ : ∃ s, ofL ([32] ++ (D ++ [32])) = s := ⟨_, rfl⟩
  have hsz : s.size = D.length + 2 := by rw [← hs, ofL_size]; simp
  have hby : bytesOf s = [32] ++ (D.map bI ++ [32]) := by rw [← hs, bytesOf_ofL]; simp [bI]
  have hrun : runTo isDig (bytesOf s) 1 = D.length + 1 := by
    have := runTo_block isDig [32] (D.map bI) [32] (dig_all h1) (fun c t e => by injection e with e _; rw [← e]; rfl)
    rw [← hby, List.length_map] at this
    exact this.trans (by show 1 + _ = _; omega)
  have hT : numT s 1 = ofL D := by
    unfold numT
    rw [hrun, ← hs, ofL_extract]
    simp
  have hc1 : (bytesOf s).getD 1 0 = (D.map bI).getD 0 0 := by
    rw [hby]
    cases D with
    | nil => simp at hp
    | cons c D => rfl
  have hd1 : isDig ((bytesOf s).getD 1 0) = true := by
    rw [hc1]
    cases D with
    | nil => simp at hp
    | cons c D => exact dig_all h1 _ (by simp)
  have hlast : (bytesOf s).getD (D.length + 1) 0 = 32 := by
    rw [hby, List.getD_eq_getElem?_getD, ← List.append_assoc, List.getElem?_append_right (by simp)]
    simp
  have hbad : numBad s 1 ↔ 9223372036854775807 < n := by
    unfold numBad
    rw [hT, hrun, hlast, hg, ofL_size, bytesOf_ofL, decide_eq_true_eq]
    constructor
    · rintro (h | ⟨h, h'⟩ | h)
      · exact h
      · have := hz h; omega
      · rw [show isLet 32 = false by decide, Bool.and_false] at h; cases h
    · exact .inl
  have e0 : endS s = runS s (D.length + 2) (numberS s ⟨1, [], [⟨false, 0, 0⟩], -1⟩) := by
    unfold endS
    rw [hsz, run_step (goes_in (by decide) (by show 0 < s.size; omega)), step_code (by show 0 < s.size; omega) rfl, code_blank (.inl (by show (bytesOf s).getD 0 0 = 32; rw [hby]; rfl))]
    show runS s (D.length + 3) ⟨1, [], [⟨false, 0, 0⟩], -1⟩ = _
    rw [run_step (goes_in (show (-1 : Int) < 0 by decide) (by show 1 < s.size; omega)), step_code (by show 1 < s.size; omega) rfl, code_dig hd1]
  rw [hs]
  by_cases hn : 9223372036854775807 < n
  · have e1 : endS s = ⟨runTo isDig (bytesOf s) 1, [], [⟨false, 0, 0⟩], 1⟩ := by
      rw [e0, numberS_no (hbad.2 hn), run_stop (goes_bad (show (0 : Int) ≤ ((1 : Nat) : Int) by decide))]
      rfl
    rw [lexS_of (by omega) e1, if_pos hn]
    exact if_pos (by show (0 : Int) ≤ 1; decide)
  · have e1 : endS s = ⟨D.length + 2, [⟨1, ofL D, 1⟩], [⟨false, 0, 0⟩], -1⟩ := by
      rw [e0, numberS_ok (fun h => hn (hbad.1 h)), hrun, hT]
      have a1 : runS s (D.length + 1 + 1) ⟨D.length + 1, [] ++ [⟨1, ofL D, ((1 : Nat) : Int)⟩], [⟨false, 0, 0⟩], -1⟩ = _ := run_step (goes_in (show (-1 : Int) < 0 by decide) (show D.length + 1 < s.size by omega))
      have a2 : stepS s ⟨D.length + 1, [] ++ [⟨1, ofL D, ((1 : Nat) : Int)⟩], [⟨false, 0, 0⟩], -1⟩ = _ := step_code (show D.length + 1 < s.size by omega) rfl
      have a3 : codeS s ⟨D.length + 1, [] ++ [⟨1, ofL D, ((1 : Nat) : Int)⟩], [⟨false, 0, 0⟩], -1⟩ = _ := code_blank (.inl hlast)
      refine a1.trans ?_
      rw [a2, a3]
      exact run_stop (goes_end (show s.size ≤ D.length + 2 by omega) (Nat.le_refl 1))
    rw [lexS_of (by omega) e1, if_neg hn, if_neg (by show ¬ (0 : Int) ≤ -1; decide), hsz]
    rfl
/-- the second one's: a nought ahead of digits -/
theorem lex_nought (n : Nat) (h : n < 10 ^ 20) : lexS (ofL ([48] ++ digU 20 n)) = ([], 0, 24) := by
  obtain ⟨h1, -, h3⟩ := digU_ok 20 n h
  have hp := digU_pos n
  generalize digU 20 n = D at *
  obtain ⟨s, hs⟩ : ∃ s, ofL ([48] ++ D) = s := ⟨_, rfl⟩
  have hsz : s.size = D.length + 1 := by rw [← hs, ofL_size]; simp
  have hby : bytesOf s = [] ++ (([48] ++ D.map bI) ++ []) := by rw [← hs, bytesOf_ofL]; simp [bI]
  have hrun : runTo isDig (bytesOf s) 0 = D.length + 1 := by
    have := runTo_block isDig [] ([48] ++ D.map bI) [] (fun c hc => by
      rcases List.mem_append.1 hc with hc | hc
      · rw [List.mem_singleton] at hc; subst hc; rfl
      · exact dig_all h1 c hc) (fun c t e => by cases e)
    rw [← hby] at this
    exact this.trans (by simp)
  have hT : numT s 0 = s := by
    unfold numT
    rw [hrun, ← hsz, ← ofL_of s, ofL_extract, ofL_size]
    simp only [Nat.sub_zero, List.drop_zero, ofL_data]
    rw [List.take_of_length_le (by rw [data_length]; exact Nat.le_refl _)]
  have hbad : numBad s 0 := by
    unfold numBad
    rw [hT]
    exact .inr (.inl ⟨by rw [hby]; rfl, by omega⟩)
  have e1 : endS s = ⟨runTo isDig (bytesOf s) 0, [], [⟨false, 0, 0⟩], 0⟩ := by
    unfold endS
    rw [run_step (goes_in (by decide) (by show 0 < s.size; omega)), step_code (by show 0 < s.size; omega) rfl, code_dig (by show isDig ((bytesOf s).getD 0 0) = true; rw [hby]; rfl)]
    unfold numberS
    rw [show startS.i = 0 from rfl, if_pos hbad, run_stop (goes_bad (Int.le_refl _))]
    rfl
  rw [hs, lexS_of (by omega) e1]
  exact if_pos (Int.le_refl _)
end Go.Proofs.Ytgenfggjonhmgaa.Lx
