/- proto: what the program and the reference write. Own work. -/
import Derived.Test.YtoblfdloakkmmaaMp4
import Derived.Test.YtoblfdloakkmmaaPL
namespace Go.Proofs.Ytoblfdloakkmmaa.Pure
set_option linter.unusedVariables false
open Go.RowKit Go.Proofs.Ytoblfdloakkmmaa.Mp Go.Proofs.Ytoblfdloakkmmaa.PL Go.Proofs.YtoblfdloakkmmaaW.PrintWords Go.Proofs.YtoblfdloakkmmaaW.PrintLast Go.Proofs.YtoblfdloakkmmaaW.PrintMore

/-- bytes i to i+d of a number, the lowest first -/
def LEf (x : Nat) (i d : Nat) : List Int := (List.range' i d).map fun j => ((x / 256 ^ j % 256 : Nat) : Int)
def LE (x n : Nat) : List Int := LEf x 0 n
theorem LEf_succ (x i d : Nat) : LEf x i (d + 1) = ((x / 256 ^ i % 256 : Nat) : Int) :: LEf x (i + 1) d := by simp [LEf, List.range'_succ]
theorem LEf_length (x i d : Nat) : (LEf x i d).length = d := by simp [LEf]
theorem LE_length (x n : Nat) : (LE x n).length = n := LEf_length x 0 n
theorem LEf_B8 (x i d : Nat) : B8 (LEf x i d) := fun y hy => by
  simp only [LEf, List.mem_map] at hy
  obtain ⟨j, _, rfl⟩ := hy
  have := Nat.mod_lt (x / 256 ^ j) (show 0 < 256 by decide)
  omega
theorem LE_B8 (x n : Nat) : B8 (LE x n) := LEf_B8 x 0 n
/-- a number as one without a sign -/
def U (n : Int) : Nat := (n % 18446744073709551616).toNat
theorem U_lt (n : Int) : U n < 18446744073709551616 := by unfold U; omega
theorem U_wrap (n : Int) : IntKind.u64.wrap n = ((U n : Nat) : Int) := by
  have : IntKind.u64.wrap n = n % 18446744073709551616 := by simp [IntKind.wrap, IntKind.bits, IntKind.signed]
  rw [this]; unfold U; omega
theorem U_nat {n : Nat} (h : n < 18446744073709551616) : U (n : Int) = n := by unfold U; omega
theorem rdOf_nat {α : Type} (d : α) (l : List α) (i : Nat) : rdOf d l (i : Int) = l.getD i d := by simp [rdOf]
theorem getD_lt {α : Type} (d : α) (l : List α) (i : Nat) (h : i < l.length) : l.getD i d = l[i] := by rw [List.getD_eq_getElem?_getD, List.getElem?_eq_getElem h]; rfl

theorem w8 (i : Nat) (h : i < 100) : wrap64 (8 * (i : Int)) = ((8 * i : Nat) : Int) := by rw [w64 (by omega) (by omega)]; omega
theorem w1 (i : Nat) (h : i < 9000000000000000000) : wrap64 ((i : Int) + 1) = ((i + 1 : Nat) : Int) := by rw [w64 (by omega) (by omega)]; omega
theorem sh8 (x i : Nat) (h : i ≤ 8) : shr .u64 (x : Int) ((8 * i : Nat) : Int) % 256 = ((x / 256 ^ i % 256 : Nat) : Int) := by
  rw [shr_nat .u64 x (8 * i) (by show 8 * i ≤ 64; omega), show (256 : Nat) = 2 ^ 8 from rfl, ← Nat.pow_mul]
  simp
theorem little_l0 (x n : Nat) (hn : n ≤ 8) : ∀ (d i k : Nat) (acc : List Int), i + d = n → d < k → acc.length + d < 140737488355328 →
    proto_little.l0 k acc (x : Int) (n : Int) (i : Int) = some (acc ++ LEf x i d) := by
  intro d
  induction d with
  | zero =>
    intro i k acc hi hk ha
    obtain ⟨k, rfl⟩ : ∃ q, k = q + 1 := ⟨k - 1, by omega⟩
    simp only [proto_little.l0]
    exact jf (by omega) (by simp [LEf])
  | succ d ih =>
    intro i k acc hi hk ha
    obtain ⟨k, rfl⟩ : ∃ q, k = q + 1 := ⟨k - 1, by omega⟩
    have c1 : (i : Int) < (n : Int) := by omega
    have c2 : (0 : Int) ≤ ((8 * i : Nat) : Int) := Int.natCast_nonneg _
    have c3 : acc.length < 140737488355328 := by omega
    have h := ih (i + 1) k (acc ++ [((x / 256 ^ i % 256 : Nat) : Int)]) (by omega) (by omega) (by rw [List.length_append, List.length_singleton]; omega)
    have e1 := w8 i (by omega)
    have e2 := w1 i (by omega)
    have e3 := sh8 x i (by omega)
    simp only [proto_little.l0]
    rw [e1, e2, e3]
    refine it c1 (it c2 (it c3 ?_))
    rw [h, LEf_succ, List.append_assoc]
    rfl
theorem little_f (x n : Nat) (hn : n ≤ 8) (b : List Int) (hb : b.length + 8 < 140737488355328) (k : Nat) (hk : 9 ≤ k) : proto_little.f k b (x : Int) (n : Int) = some (b ++ LE x n) := by
  unfold proto_little.f
  exact little_l0 x n hn n 0 k b (by omega) (by omega) (by omega)
theorem little4 (x : Nat) (b : List Int) (hb : b.length + 8 < 140737488355328) (k : Nat) (hk : 9 ≤ k) : proto_little.f k b (x : Int) 4 = some (b ++ LE x 4) := little_f x 4 (by decide) b hb k hk
theorem little8 (x : Nat) (b : List Int) (hb : b.length + 8 < 140737488355328) (k : Nat) (hk : 9 ≤ k) : proto_little.f k b (x : Int) 8 = some (b ++ LE x 8) := little_f x 8 (by decide) b hb k hk

/-- a text's bytes in a body -/
def tb (s : ByteArray) : List Int := LE s.size 4 ++ bytesOf s
def nb (n : Int) : List Int := LE (U n) 8
def bodyOf (nums : List Int) (texts : List ByteArray) : List Int := LE nums.length 4 ++ nums.flatMap nb ++ LE texts.length 4 ++ texts.flatMap tb
def frameOf (kind : Int) (body : List Int) : List Int := [80, 68, 1, kind % 256] ++ LE body.length 4 ++ body
theorem tb_length (s : ByteArray) : (tb s).length = 4 + s.size := by simp [tb, LE_length, bytesOf_length]

theorem text_f (b : List Int) (s : ByteArray) (hb : b.length + s.size + 8 < 140737488355328) (k : Nat) (hk : 9 ≤ k) : proto_text.f k b s = some (b ++ tb s) := by
  unfold proto_text.f
  have hu : IntKind.u64.wrap ((s.size : Int)) = (s.size : Int) := wu64 (by omega) (by omega)
  rw [hu]
  refine bd (little4 s.size b (by clear hu; omega) k hk) (it ?_ ?_)
  · rw [List.length_append, LE_length]; clear hu; omega
  · rw [List.append_assoc]; rfl
theorem frame_f (kind : Int) (b : List Int) (hb : b.length + 8 < 140737488355300) (k : Nat) (hk : 9 ≤ k) : proto_frame.f k kind b = some (frameOf kind b) := by
  unfold proto_frame.f
  have hu : IntKind.u64.wrap ((b.length : Int)) = (b.length : Int) := wu64 (by omega) (by omega)
  rw [hu]
  refine bd (little4 b.length _ (by simp) k hk) (it ?_ rfl)
  rw [List.length_append, LE_length]; simp only [List.length_cons, List.length_nil]; clear hu; omega

theorem enc_l1 (kind : Int) (nums : List Int) (texts : List ByteArray) : ∀ (d i k : Nat) (b : List Int), i + d = texts.length → d + 10 ≤ k → (b ++ (texts.drop i).flatMap tb).length ≤ 4194304 → texts.length < 1000000 →
    proto_Encode.l1 k b texts (texts.length : Int) (i : Int) kind nums texts = some (frameOf kind (b ++ (texts.drop i).flatMap tb), 0) := by
  intro d
  induction d with
  | zero =>
    intro i k b hi hk hb ht
    obtain ⟨k, rfl⟩ : ∃ q, k = q + 1 := ⟨k - 1, by omega⟩
    have e : (texts.drop i).flatMap tb = [] := by rw [List.drop_eq_nil_of_le (by omega)]; rfl
    rw [e, List.append_nil] at hb ⊢
    simp only [proto_Encode.l1]
    exact jf (by omega) (jf (by omega) (bd (frame_f kind b (by omega) k (by omega)) rfl))
  | succ d ih =>
    intro i k b hi hk hb ht
    obtain ⟨k, rfl⟩ : ∃ q, k = q + 1 := ⟨k - 1, by omega⟩
    have hil : i < texts.length := by omega
    have ed := List.drop_eq_getElem_cons hil
    rw [ed, List.flatMap_cons, ← List.append_assoc] at hb ⊢
    have hlen : (b ++ tb texts[i]).length ≤ 4194304 := by
      rw [List.length_append] at hb; omega
    rw [List.length_append, tb_length] at hlen
    have er : rdOf ByteArray.empty texts (i : Int) = texts[i] := by rw [rdOf_nat, getD_lt _ _ _ hil]
    have c1 : (i : Int) < (texts.length : Int) := by omega
    have c3 : ¬ (texts[i].size : Int) > 4194304 - (b.length : Int) := by omega
    have ht2 := text_f b texts[i] (by omega) k (by omega)
    have h := ih (i + 1) k (b ++ tb texts[i]) (by omega) (by omega) hb ht
    have e2 := w1 i (by omega)
    have e3 : wrap64 (4194304 - (b.length : Int)) = 4194304 - (b.length : Int) := w64 (by omega) (by omega)
    simp only [proto_Encode.l1]
    rw [er, e2, e3]
    exact it c1 (it (Int.natCast_nonneg _) (it c1 (jf c3 (bd ht2 h))))
theorem enc_l0 (kind : Int) (nums : List Int) (texts : List ByteArray) (ht : texts.length < 1000000) (hn : nums.length < 1000000) : ∀ (d i k : Nat) (b : List Int), i + d = nums.length → d + texts.length + 20 ≤ k →
    (b ++ (nums.drop i).flatMap nb ++ LE texts.length 4 ++ texts.flatMap tb).length ≤ 4194304 →
    proto_Encode.l0 k b nums (nums.length : Int) (i : Int) kind nums texts = some (frameOf kind (b ++ (nums.drop i).flatMap nb ++ LE texts.length 4 ++ texts.flatMap tb), 0) := by
  intro d
  induction d with
  | zero =>
    intro i k b hi hk hb
    obtain ⟨k, rfl⟩ : ∃ q, k = q + 1 := ⟨k - 1, by omega⟩
    have e : (nums.drop i).flatMap nb = [] := by rw [List.drop_eq_nil_of_le (by omega)]; rfl
    rw [e, List.append_nil] at hb ⊢
    have hbl : b.length ≤ 4194304 := by simp only [List.length_append] at hb; omega
    have h := enc_l1 kind nums texts texts.length 0 k (b ++ LE texts.length 4) (by omega) (by omega) hb ht
    have hl4 := little4 texts.length b (by omega) k (by omega)
    have hu : IntKind.u64.wrap ((texts.length : Int)) = (texts.length : Int) := wu64 (by omega) (by omega)
    simp only [proto_Encode.l0]
    rw [hu]
    exact jf (by clear hu; omega) (bd hl4 h)
  | succ d ih =>
    intro i k b hi hk hb
    obtain ⟨k, rfl⟩ : ∃ q, k = q + 1 := ⟨k - 1, by omega⟩
    have hil : i < nums.length := by omega
    have ed := List.drop_eq_getElem_cons hil
    rw [ed, List.flatMap_cons, ← List.append_assoc b] at hb ⊢
    have hbl : b.length ≤ 4194304 := by simp only [List.length_append] at hb; omega
    have er : rd nums (i : Int) = nums[i] := by rw [rd_nat, getD_lt _ _ _ hil]
    have c1 : (i : Int) < (nums.length : Int) := by omega
    have h := ih (i + 1) k (b ++ nb nums[i]) (by omega) (by omega) hb
    have hl8 := little8 (U nums[i]) b (by omega) k (by omega)
    have e2 := w1 i (by omega)
    simp only [proto_Encode.l0]
    rw [er, e2, U_wrap]
    exact it c1 (it (Int.natCast_nonneg _) (it c1 (bd hl8 h)))
/-- what is written, or refused -/
def encOf (kind : Int) (nums : List Int) (texts : List ByteArray) : List Int × Int :=
  if kind < 1 ∨ 100 < kind then ([], 1) else if 64 < nums.length ∨ 1024 < texts.length then ([], 5) else (frameOf kind (bodyOf nums texts), 0)
theorem encOf_arg {kind : Int} {nums : List Int} {texts : List ByteArray} (h : kind < 1 ∨ 100 < kind) : encOf kind nums texts = ([], 1) := by unfold encOf; rw [if_pos h]
theorem encOf_long {kind : Int} {nums : List Int} {texts : List ByteArray} (h : ¬ (kind < 1 ∨ 100 < kind)) (h2 : 64 < nums.length ∨ 1024 < texts.length) : encOf kind nums texts = ([], 5) := by unfold encOf; rw [if_neg h, if_pos h2]
theorem encOf_ok {kind : Int} {nums : List Int} {texts : List ByteArray} (h : ¬ (kind < 1 ∨ 100 < kind)) (h2 : ¬ (64 < nums.length ∨ 1024 < texts.length)) : encOf kind nums texts = (frameOf kind (bodyOf nums texts), 0) := by unfold encOf; rw [if_neg h, if_neg h2]
theorem enc_ev (kind : Int) (nums : List Int) (texts : List ByteArray) (hb : nums.length ≤ 64 → texts.length ≤ 1024 → (bodyOf nums texts).length ≤ 4194304) :
    Ev (fun k => proto_Encode.f k kind nums texts) (encOf kind nums texts) := by
  refine ⟨nums.length + texts.length + 40, fun k hk => ?_⟩
  obtain ⟨k, rfl⟩ : ∃ q, k = q + 1 := ⟨k - 1, by omega⟩
  unfold proto_Encode.f
  by_cases h1 : kind < 1
  · rw [encOf_arg (.inl h1)]
    exact it h1 (by simp [proto_Encode.j0])
  refine jf h1 ?_
  by_cases h2 : kind > 100
  · rw [encOf_arg (.inr h2), decide_eq_true h2]
    simp [proto_Encode.j0]
  rw [decide_eq_false h2]
  have h12 : ¬ (kind < 1 ∨ 100 < kind) := by omega
  simp only [proto_Encode.j0]
  refine jf (by simp) ?_
  by_cases h3 : 64 < nums.length
  · rw [encOf_long h12 (.inl h3)]
    exact it (by omega) rfl
  refine jf (by omega) ?_
  by_cases h4 : 1024 < texts.length
  · rw [encOf_long h12 (.inr h4)]
    exact it (by omega) rfl
  rw [encOf_ok h12 (by omega)]
  refine jf (by omega) ?_
  have hbb := hb (by omega) (by omega)
  have hl := little4 nums.length [] (by decide) k (by omega)
  have h := enc_l0 kind nums texts (by omega) (by omega) nums.length 0 k ([] ++ LE nums.length 4) (by omega) (by omega) hbb
  have hu : IntKind.u64.wrap ((nums.length : Int)) = (nums.length : Int) := wu64 (by omega) (by omega)
  rw [hu]
  exact bd hl h

-- the reference
theorem four_f (b : List Int) (x : Nat) (hb : b.length + 8 < 140737488355328) : pantryref26_four.f b (x : Int) = some (b ++ LE x 4) := by
  unfold pantryref26_four.f
  have e : ([(x : Int) % 256, ((x : Int) / 256) % 256, ((x : Int) / 65536) % 256, ((x : Int) / 16777216) % 256] : List Int) = LE x 4 := by
    simp [LE, LEf, List.range'_succ]
  refine bd rfl (it ?_ ?_)
  · simp only [List.length_cons, List.length_nil]; omega
  · rw [e]
theorem eight_l0 (x : Nat) : ∀ (d i k : Nat) (acc : List Int), i + d = 8 → d < k → acc.length + d < 140737488355328 →
    pantryref26_eight.l0 k acc (x : Int) (i : Int) = some (acc ++ LEf x i d) := by
  intro d
  induction d with
  | zero =>
    intro i k acc hi hk ha
    obtain ⟨k, rfl⟩ : ∃ q, k = q + 1 := ⟨k - 1, by omega⟩
    simp only [pantryref26_eight.l0]
    exact jf (by omega) (by simp [LEf])
  | succ d ih =>
    intro i k acc hi hk ha
    obtain ⟨k, rfl⟩ : ∃ q, k = q + 1 := ⟨k - 1, by omega⟩
    have c1 : (i : Int) < 8 := by omega
    have c2 : (0 : Int) ≤ ((8 * i : Nat) : Int) := Int.natCast_nonneg _
    have c3 : acc.length < 140737488355328 := by omega
    have h := ih (i + 1) k (acc ++ [((x / 256 ^ i % 256 : Nat) : Int)]) (by omega) (by omega) (by rw [List.length_append, List.length_singleton]; omega)
    have e0 : IntKind.u64.wrap ((8 * i : Nat) : Int) = ((8 * i : Nat) : Int) := wu64 (by omega) (by omega)
    have e1 := w8 i (by clear e0; omega)
    have e2 := w1 i (by clear e0 e1; omega)
    have e3 := sh8 x i (by clear e0 e1 e2; omega)
    simp only [pantryref26_eight.l0]
    rw [e1, e0, e2, e3]
    refine it c1 (it c2 (it c3 ?_))
    rw [h, LEf_succ, List.append_assoc]
    rfl
theorem eight_f (b : List Int) (n : Int) (hb : b.length + 8 < 140737488355328) (k : Nat) (hk : 9 ≤ k) : pantryref26_eight.f k b n = some (b ++ nb n) := by
  unfold pantryref26_eight.f
  rw [U_wrap]
  exact eight_l0 (U n) 8 0 k b (by omega) (by omega) (by omega)
theorem body_l1 (kind : Int) (nums : List Int) (texts : List ByteArray) (ht : texts.length < 1000000) : ∀ (d i k : Nat) (b : List Int), i + d = texts.length → d < k → (b ++ (texts.drop i).flatMap tb).length ≤ 4194304 →
    pantryref26_body.l1 k b (i : Int) kind nums texts = some (b ++ (texts.drop i).flatMap tb) := by
  intro d
  induction d with
  | zero =>
    intro i k b hi hk hb
    obtain ⟨k, rfl⟩ : ∃ q, k = q + 1 := ⟨k - 1, by omega⟩
    have e : (texts.drop i).flatMap tb = [] := by rw [List.drop_eq_nil_of_le (by omega)]; rfl
    rw [e, List.append_nil] at hb ⊢
    simp only [pantryref26_body.l1]
    exact jf (by omega) rfl
  | succ d ih =>
    intro i k b hi hk hb
    obtain ⟨k, rfl⟩ : ∃ q, k = q + 1 := ⟨k - 1, by omega⟩
    have hil : i < texts.length := by omega
    have ed := List.drop_eq_getElem_cons hil
    rw [ed, List.flatMap_cons, ← List.append_assoc] at hb ⊢
    have hlen : (b ++ tb texts[i]).length ≤ 4194304 := by
      rw [List.length_append] at hb; omega
    rw [List.length_append, tb_length] at hlen
    have er : rdOf ByteArray.empty texts (i : Int) = texts[i] := by rw [rdOf_nat, getD_lt _ _ _ hil]
    have c1 : (i : Int) < (texts.length : Int) := by omega
    have h4 := four_f b texts[i].size (by omega)
    have c2 : (b ++ LE texts[i].size 4).length + texts[i].size < 140737488355328 := by rw [List.length_append, LE_length]; omega
    have h := ih (i + 1) k (b ++ tb texts[i]) (by omega) (by omega) hb
    have e2 := w1 i (by omega)
    simp only [pantryref26_body.l1]
    rw [er, e2]
    refine it c1 (it (Int.natCast_nonneg _) (bd h4 (it c2 ?_)))
    rw [List.append_assoc]
    exact h
theorem body_l0 (kind : Int) (nums : List Int) (texts : List ByteArray) (ht : texts.length < 1000000) (hn : nums.length < 1000000) : ∀ (d i k : Nat) (b : List Int), i + d = nums.length → d + texts.length + 20 ≤ k →
    (b ++ (nums.drop i).flatMap nb ++ LE texts.length 4 ++ texts.flatMap tb).length ≤ 4194304 →
    pantryref26_body.l0 k b (i : Int) kind nums texts = some (b ++ (nums.drop i).flatMap nb ++ LE texts.length 4 ++ texts.flatMap tb) := by
  intro d
  induction d with
  | zero =>
    intro i k b hi hk hb
    obtain ⟨k, rfl⟩ : ∃ q, k = q + 1 := ⟨k - 1, by omega⟩
    have e : (nums.drop i).flatMap nb = [] := by rw [List.drop_eq_nil_of_le (by omega)]; rfl
    rw [e, List.append_nil] at hb ⊢
    have hbl : b.length ≤ 4194304 := by simp only [List.length_append] at hb; omega
    have h := body_l1 kind nums texts ht texts.length 0 k (b ++ LE texts.length 4) (by omega) (by omega) hb
    have hl4 := four_f b texts.length (by omega)
    simp only [pantryref26_body.l0]
    exact jf (by omega) (bd hl4 h)
  | succ d ih =>
    intro i k b hi hk hb
    obtain ⟨k, rfl⟩ : ∃ q, k = q + 1 := ⟨k - 1, by omega⟩
    have hil : i < nums.length := by omega
    have ed := List.drop_eq_getElem_cons hil
    rw [ed, List.flatMap_cons, ← List.append_assoc b] at hb ⊢
    have hbl : b.length ≤ 4194304 := by simp only [List.length_append] at hb; omega
    have er : rd nums (i : Int) = nums[i] := by rw [rd_nat, getD_lt _ _ _ hil]
    have c1 : (i : Int) < (nums.length : Int) := by omega
    have h := ih (i + 1) k (b ++ nb nums[i]) (by omega) (by omega) hb
    have hl8 := eight_f b nums[i] (by omega) k (by omega)
    have e2 := w1 i (by omega)
    simp only [pantryref26_body.l0]
    rw [er, e2]
    exact it c1 (it (Int.natCast_nonneg _) (bd hl8 h))
theorem rframe_f (kind : Int) (b : List Int) (hb : b.length ≤ 4194304) : pantryref26_frame.f kind b = some (frameOf kind b, 0) := by
  unfold pantryref26_frame.f
  refine jf (by omega) (bd (four_f _ b.length (by simp)) (it ?_ rfl))
  rw [List.length_append, LE_length]; simp only [List.length_cons, List.length_nil]; omega
theorem renc_ev (kind : Int) (nums : List Int) (texts : List ByteArray) (hb : nums.length ≤ 64 → texts.length ≤ 1024 → (bodyOf nums texts).length ≤ 4194304) :
    Ev (fun k => pantryref26_Encode.f k kind nums texts) (encOf kind nums texts) := by
  refine ⟨nums.length + texts.length + 40, fun k hk => ?_⟩
  obtain ⟨k, rfl⟩ : ∃ q, k = q + 2 := ⟨k - 2, by omega⟩
  unfold pantryref26_Encode.f
  by_cases h1 : kind < 1
  · rw [encOf_arg (.inl h1)]
    exact it h1 (by simp [pantryref26_Encode.j0])
  refine jf h1 ?_
  by_cases h2 : kind > 100
  · rw [encOf_arg (.inr h2), decide_eq_true h2]
    simp [pantryref26_Encode.j0]
  rw [decide_eq_false h2]
  have h12 : ¬ (kind < 1 ∨ 100 < kind) := by omega
  simp only [pantryref26_Encode.j0]
  refine jf (by simp) ?_
  by_cases h3 : 64 < nums.length
  · rw [encOf_long h12 (.inl h3)]
    exact it (by omega) (by simp [pantryref26_Encode.j1])
  refine jf (by omega) ?_
  by_cases h4 : 1024 < texts.length
  · rw [encOf_long h12 (.inr h4), decide_eq_true (by omega)]
    simp [pantryref26_Encode.j1]
  rw [encOf_ok h12 (by omega), decide_eq_false (by omega)]
  simp only [pantryref26_Encode.j1]
  refine jf (by simp) ?_
  have hbb := hb (by omega) (by omega)
  have hl := four_f [] nums.length (by decide)
  have h := body_l0 kind nums texts (by omega) (by omega) nums.length 0 k ([] ++ LE nums.length 4) (by omega) (by omega) hbb
  have hbody : pantryref26_body.f k kind nums texts = some (bodyOf nums texts) := by
    unfold pantryref26_body.f
    exact bd hl h
  exact bd hbody (bd (rframe_f kind _ hbb) rfl)
end Go.Proofs.Ytoblfdloakkmmaa.Pure
