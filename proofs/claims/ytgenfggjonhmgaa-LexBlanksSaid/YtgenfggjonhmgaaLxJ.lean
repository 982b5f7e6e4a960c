/- lex: the plain lexer goes on, and ends. Own work. -/
import Derived.Test.YtgenfggjonhmgaaLxG
namespace Go.Proofs.Ytgenfggjonhmgaa.Lx
set_option linter.unusedVariables false
set_option linter.unusedSimpArgs false
open Go.RowKit Go.Proofs.Ytgenfggjonhmgaa.Ml Go.Proofs.Ytgenfggjonhmgaa.PL Go.Proofs.YtgenfggjonhmgaaW.PrintWords Go.Proofs.YtgenfggjonhmgaaW.PrintLast Go.Proofs.YtgenfggjonhmgaaW.PrintMore
/-- how much is left at most -/
def mu (s : ByteArray) (x : LS) : Nat := if x.wr < 0 then s.size - x.i + 1 else 0
theorem isLet_nam {c : Int} (h : isLet c = true) : isNam c = true := by unfold isNam; rw [h]; rfl
theorem runTo_gt {p : Int → Bool} {l : List Int} {k : Nat} (hk : k < l.length) (h : p (l.getD k 0) = true) : k < runTo p l k ∧ runTo p l k ≤ l.length := by
  have h0 := runTo_next hk h
  have h1 := runTo_le p l (k + 1) (by omega)
  omega
structure OkStep (s : ByteArray) (x y : LS) : Prop where
  ok : Okl s y
  mu : mu s y < mu s x
  wr : y.wr = x.wr ∨ 0 ≤ y.wr
variable {s : ByteArray} {x : LS}
theorem mu_pos (h : x.wr < 0) : mu s x = s.size - x.i + 1 := by unfold mu; rw [if_pos h]
theorem mu_lt (h : x.wr < 0) {y : LS} (hy : 0 ≤ y.wr ∨ (x.i < y.i ∧ y.i ≤ s.size)) : mu s y < mu s x := by
  rw [mu_pos h]
  unfold mu
  split
  · rcases hy with hy | hy <;> omega
  · omega
theorem ok_same {y : LS} (hO : Okl s x) (hi : x.i ≤ y.i) (hy : y.i ≤ s.size) (hl : y.l.length + 2 * x.i ≤ x.l.length + 2 * y.i) (hm : y.m = x.m) : Okl s y := by
  obtain ⟨h1, h2, h3, h4, h5, h6, h7, h8⟩ := hO
  exact ⟨h1, hy, by omega, by rw [hm]; exact h4, by rw [hm]; omega, by rw [hm]; exact fun q hq => ⟨(h6 q hq).1, by have := (h6 q hq).2; omega⟩, by rw [hm]; exact h7, by rw [hm]; exact h8⟩
theorem name_ok (hO : Okl s x) (hw : x.wr < 0) (hlt : x.i < s.size) (hc : isLet ((bytesOf s).getD x.i 0) = true) : OkStep s x (nameS s x) := by
  have h := runTo_gt (p := isNam) (l := bytesOf s) (k := x.i) (by rw [bytesOf_length]; exact hlt) (isLet_nam hc)
  rw [bytesOf_length] at h
  refine ⟨ok_same hO ?_ ?_ ?_ rfl, mu_lt hw (.inr h), .inl rfl⟩
  · show x.i ≤ runTo isNam (bytesOf s) x.i; omega
  · exact h.2
  · show (x.l ++ [_]).length + 2 * x.i ≤ x.l.length + 2 * runTo isNam (bytesOf s) x.i
    rw [List.length_append, List.length_singleton]; omega
theorem number_ok (hO : Okl s x) (hw : x.wr < 0) (hlt : x.i < s.size) (hc : isDig ((bytesOf s).getD x.i 0) = true) : OkStep s x (numberS s x) := by
  have h := runTo_gt (p := isDig) (l := bytesOf s) (k := x.i) (by rw [bytesOf_length]; exact hlt) hc
  rw [bytesOf_length] at h
  unfold numberS
  split
  · refine ⟨ok_same hO (Nat.le_of_lt h.1) h.2 ?_ rfl, mu_lt hw (.inr h), .inr (by show (0 : Int) ≤ (x.i : Int); omega)⟩
    show x.l.length + 2 * x.i ≤ x.l.length + 2 * runTo isDig (bytesOf s) x.i
    omega
  · refine ⟨ok_same hO (Nat.le_of_lt h.1) h.2 ?_ rfl, mu_lt hw (.inr h), .inl rfl⟩
    show (x.l ++ [_]).length + 2 * x.i ≤ x.l.length + 2 * runTo isDig (bytesOf s) x.i
    rw [List.length_append, List.length_singleton]; omega
theorem opens_ok (hO : Okl s x) (hw : x.wr < 0) (hlt : x.i < s.size) : OkStep s x (opensS x) := by
  unfold opensS
  split
  · exact ⟨ok_same hO (Nat.le_refl _) hO.le (Nat.le_refl _) rfl, mu_lt hw (.inl (by show (0 : Int) ≤ (x.i : Int); omega)), .inr (by show (0 : Int) ≤ (x.i : Int); omega)⟩
  · obtain ⟨h1, h2, h3, h4, h5, h6, h7, h8⟩ := hO
    refine ⟨⟨h1, hlt, ?_, ?_, ?_, ?_, ?_, ?_⟩, mu_lt hw (.inr ⟨Nat.lt_succ_self _, hlt⟩), .inl rfl⟩
    · show (x.l ++ [_]).length ≤ 2 * (x.i + 1); rw [List.length_append, List.length_singleton]; omega
    · show 0 < (x.m ++ [_]).length; simp
    · show (x.m ++ [_]).length ≤ x.i + 1 + 1; rw [List.length_append, List.length_singleton]; omega
    · intro q hq
      rcases List.mem_append.1 hq with hq | hq
      · exact ⟨(h6 q hq).1, by have := (h6 q hq).2; show q.f2 ≤ ((x.i + 1 : Nat) : Int); omega⟩
      · rw [List.mem_singleton] at hq; subst hq; exact ⟨Int.le_refl _, by show (0 : Int) ≤ ((x.i + 1 : Nat) : Int); omega⟩
    · intro q hq
      rcases List.mem_append.1 hq with hq | hq
      · exact h7 q hq
      · rw [List.mem_singleton] at hq; subst hq; show (0 : Int) ≤ (x.i : Int); omega
    · show ((x.m ++ [_]).getD 0 z42).f0 = false
      rw [List.getD_eq_getElem?_getD, List.getElem?_append_left h4, ← List.getD_eq_getElem?_getD]; exact h8
theorem sign_size : ∀ t ∈ signL, 1 ≤ t.size ∧ t.size ≤ 2 := by decide
theorem signAt_mem {b : List UInt8} {t : ByteArray} (h : signAt b = some t) : t ∈ signL ∧ Lib.hasPrefix b t.data.toList = true := by
  unfold signAt at h
  exact ⟨List.mem_of_find?_eq_some h, List.find?_some (p := fun t : ByteArray => Lib.hasPrefix b t.data.toList) h⟩
theorem signAt_le (s : ByteArray) (k : Nat) {t : ByteArray} (h : signAt (s.extract k s.size).data.toList = some t) : 1 ≤ t.size ∧ (k ≤ s.size → k + t.size ≤ s.size) := by
  obtain ⟨hm, hp⟩ := signAt_mem h
  refine ⟨(sign_size t hm).1, fun hk => ?_⟩
  unfold Lib.hasPrefix at hp
  rw [List.isPrefixOf_iff_prefix, to_end] at hp
  have := hp.length_le
  rw [List.length_drop, data_length, data_length] at this
  omega
/-- what the modes are to be -/
structure Mok (i : Nat) (m : List S42) : Prop where
  m0 : 0 < m.length
  ml : m.length ≤ i + 1
  br : ∀ q ∈ m, 0 ≤ q.f2 ∧ q.f2 ≤ i
  at_ : ∀ q ∈ m, 0 ≤ q.f1
  bot : (m.getD 0 z42).f0 = false
theorem Okl.mok (h : Okl s x) : Mok x.i x.m := ⟨h.m0, h.ml, h.br, h.at_, h.bot⟩
theorem Okl.of {y : LS} (h1 : s.size ≤ 16384) (h2 : y.i ≤ s.size) (h3 : y.l.length ≤ 2 * y.i) (h : Mok y.i y.m) : Okl s y := ⟨h1, h2, h3, h.m0, h.ml, h.br, h.at_, h.bot⟩
theorem Mok.up {i j : Nat} {m : List S42} (h : Mok i m) (hij : i ≤ j) : Mok j m := ⟨h.m0, by have := h.ml; omega, fun q hq => ⟨(h.br q hq).1, by have := (h.br q hq).2; omega⟩, h.at_, h.bot⟩
theorem Mok.pop {i : Nat} {m : List S42} (h : Mok i m) (hm : m.length ≠ 1) : Mok i (m.take (m.length - 1)) := by
  have h0 := h.m0
  refine ⟨by rw [List.length_take]; omega, by rw [List.length_take]; have := h.ml; omega, fun q hq => h.br q (List.mem_of_mem_take hq), fun q hq => h.at_ q (List.mem_of_mem_take hq), ?_⟩
  rw [List.getD_eq_getElem?_getD, List.getElem?_take, if_pos (by omega), ← List.getD_eq_getElem?_getD]
  exact h.bot
theorem Mok.push {i : Nat} {m : List S42} (h : Mok i m) (q : S42) (h0 : 0 ≤ q.f2 ∧ q.f2 ≤ ((i + 1 : Nat) : Int)) (h1 : 0 ≤ q.f1) : Mok (i + 1) (m ++ [q]) := by
  refine ⟨by simp, by rw [List.length_append, List.length_singleton]; have := h.ml; omega, fun r hr => ?_, fun r hr => ?_, ?_⟩
  · rcases List.mem_append.1 hr with hr | hr
    · exact ⟨(h.br r hr).1, by have := (h.br r hr).2; omega⟩
    · rw [List.mem_singleton] at hr; subst hr; exact h0
  · rcases List.mem_append.1 hr with hr | hr
    · exact h.at_ r hr
    · rw [List.mem_singleton] at hr; subst hr; exact h1
  · rw [List.getD_eq_getElem?_getD, List.getElem?_append_left h.m0, ← List.getD_eq_getElem?_getD]; exact h.bot
theorem Mok.top {i : Nat} {m : List S42} (h : Mok i m) (z : Int) (h0 : 0 ≤ z ∧ z ≤ ((i + 1 : Nat) : Int)) (hm : m.length ≠ 1) : Mok (i + 1) (m.set (m.length - 1) ⟨(topM m).f0, (topM m).f1, z⟩) := by
  have hm0 := h.m0
  have ht := top_mem m hm0
  refine ⟨by rw [List.length_set]; exact hm0, by rw [List.length_set]; have := h.ml; omega, fun r hr => ?_, fun r hr => ?_, ?_⟩
  · rcases List.mem_or_eq_of_mem_set hr with hr | hr
    · exact ⟨(h.br r hr).1, by have := (h.br r hr).2; omega⟩
    · subst hr; exact h0
  · rcases List.mem_or_eq_of_mem_set hr with hr | hr
    · exact h.at_ r hr
    · subst hr; exact h.at_ (topM m) ht
  · rw [List.getD_eq_getElem?_getD, List.getElem?_set_ne (by omega), ← List.getD_eq_getElem?_getD]; exact h.bot
theorem braces_ok {i : Nat} {m : List S42} (h : Mok i m) (t : ByteArray) : Mok (i + 1) (bracesM m t) := by
  have ht := h.br _ (top_mem m h.m0)
  unfold bracesM
  split
  · exact h.up (by omega)
  · next hm =>
    split
    · exact h.top _ (by omega) hm
    · split
      · split
        · exact (h.pop hm).up (by omega)
        · exact h.top _ (by omega) hm
      · exact h.up (by omega)
theorem sign_ok (hO : Okl s x) (hw : x.wr < 0) (hlt : x.i < s.size) : OkStep s x (signS s x) := by
  unfold signS
  split
  · exact ⟨ok_same hO (Nat.le_refl _) hO.le (Nat.le_refl _) rfl, mu_lt hw (.inl (by show (0 : Int) ≤ (x.i : Int); omega)), .inr (by show (0 : Int) ≤ (x.i : Int); omega)⟩
  · next t ht =>
    obtain ⟨h1, h2⟩ := signAt_le s x.i ht
    have h2 := h2 hO.le
    have hll := hO.ll
    refine ⟨Okl.of hO.sz h2 ?_ ((braces_ok hO.mok t).up (by show x.i + 1 ≤ x.i + t.size; omega)), mu_lt hw (.inr ⟨by show x.i < x.i + t.size; omega, h2⟩), .inl rfl⟩
    show (x.l ++ [_]).length ≤ 2 * (x.i + t.size)
    rw [List.length_append, List.length_singleton]; omega
theorem code_ok (hO : Okl s x) (hw : x.wr < 0) (hlt : x.i < s.size) : OkStep s x (codeS s x) := by
  unfold codeS
  simp only
  split
  · exact ⟨ok_same hO (by show x.i ≤ x.i + 1; omega) hlt (by show x.l.length + 2 * x.i ≤ x.l.length + 2 * (x.i + 1); omega) rfl, mu_lt hw (.inr ⟨by show x.i < x.i + 1; omega, hlt⟩), .inl rfl⟩
  · split
    · next h35 =>
      have h := runTo_gt (p := fun c => !isEnd c) (l := bytesOf s) (k := x.i) (by rw [bytesOf_length]; exact hlt) (by rw [h35]; rfl)
      rw [bytesOf_length] at h
      exact ⟨ok_same hO (Nat.le_of_lt h.1) h.2 (by show x.l.length + 2 * x.i ≤ x.l.length + 2 * runTo (fun c => !isEnd c) (bytesOf s) x.i; omega) rfl, mu_lt hw (.inr h), .inl rfl⟩
    · split
      · next h => exact name_ok hO hw hlt h
      · split
        · next h => exact number_ok hO hw hlt h
        · split
          · exact opens_ok hO hw hlt
          · exact sign_ok hO hw hlt
theorem textE_ok (b : List Int) : ∀ (n i : Nat) (a : List Int), i ≤ b.length → b.length - i < n → (match textE b n i a with
    | .shut j _ => i ≤ j ∧ j < b.length
    | .hole j _ => i ≤ j ∧ j + 1 < b.length
    | .bad j => i ≤ j ∧ j < b.length
    | .ended j => j = b.length) := by
  intro n
  induction n with
  | zero => intro i a _ h; omega
  | succ n ih =>
    intro i a hi hn
    rw [textE]
    by_cases h1 : b.length ≤ i
    · rw [if_pos h1]; show i = b.length; omega
    · rw [if_neg h1]
      by_cases h2 : b.getD i 0 = 34
      · rw [if_pos h2]; show i ≤ i ∧ i < b.length; omega
      · rw [if_neg h2]
        by_cases h3 : b.getD i 0 = 36 ∧ b.getD (i + 1) 0 = 123
        · rw [if_pos h3]
          show i ≤ i ∧ i + 1 < b.length
          refine ⟨Nat.le_refl _, ?_⟩
          rcases Nat.lt_or_ge (i + 1) b.length with h | h
          · exact h
          · have := h3.2
            rw [List.getD_eq_getElem?_getD, List.getElem?_eq_none h] at this
            cases this
        · rw [if_neg h3]
          by_cases h4 : b.getD i 0 = 92
          · rw [if_pos h4]
            cases he : escB (b.getD (i + 1) 0) with
            | none => show i ≤ i ∧ i < b.length; omega
            | some d =>
              have hlt : i + 1 < b.length := by
                rcases Nat.lt_or_ge (i + 1) b.length with h | h
                · exact h
                · rw [List.getD_eq_getElem?_getD, List.getElem?_eq_none h] at he
                  cases he
              have := ih (i + 2) (a ++ [d]) (by omega) (by omega)
              simp only
              cases h : textE b n (i + 2) (a ++ [d]) <;> rw [h] at this <;> simp only at this ⊢ <;> omega
          · rw [if_neg h4]
            have := ih (i + 1) (a ++ [b.getD i 0]) (by omega) (by omega)
            cases h : textE b n (i + 1) (a ++ [b.getD i 0]) <;> rw [h] at this <;> simp only at this ⊢ <;> omega
theorem piece_le (l : List S28) (a : List Int) (k : Nat) : (pieceL l a k).length ≤ l.length + 1 := by unfold pieceL; split <;> simp
theorem text_ok (hO : Okl s x) (hw : x.wr < 0) (hlt : x.i < s.size) (ht : (topM x.m).f0 = true) : OkStep s x (textS s x) := by
  have hm : x.m.length ≠ 1 := by
    intro h
    have := hO.bot
    unfold topM at ht
    rw [h] at ht
    rw [ht] at this
    cases this
  have h := textE_ok (bytesOf s) (s.size - x.i + 1) x.i [] (by rw [bytesOf_length]; exact hO.le) (by rw [bytesOf_length]; omega)
  rw [bytesOf_length] at h
  have hll := hO.ll
  unfold textS
  cases hT : textE (bytesOf s) (s.size - x.i + 1) x.i [] with
  | shut j a =>
    rw [hT] at h
    have hp := piece_le x.l a x.i
    refine ⟨Okl.of hO.sz h.2 ?_ ((hO.mok.pop hm).up (by show x.i ≤ j + 1; have := h.1; omega)), mu_lt hw (.inr ⟨by show x.i < j + 1; have := h.1; omega, h.2⟩), .inl rfl⟩
    show (pieceL x.l a x.i ++ [_]).length ≤ 2 * (j + 1)
    rw [List.length_append, List.length_singleton]; have := h.1; omega
  | hole j a =>
    rw [hT] at h
    have hp := piece_le x.l a x.i
    refine ⟨Okl.of hO.sz h.2 ?_ ((hO.mok.push ⟨false, 0, 0⟩ ⟨Int.le_refl _, by show (0 : Int) ≤ ((x.i + 1 : Nat) : Int); omega⟩ (Int.le_refl _)).up (by show x.i + 1 ≤ j + 2; have := h.1; omega)), mu_lt hw (.inr ⟨by show x.i < j + 2; have := h.1; omega, h.2⟩), .inl rfl⟩
    show (pieceL x.l a x.i ++ [_]).length ≤ 2 * (j + 2)
    rw [List.length_append, List.length_singleton]; have := h.1; omega
  | bad j =>
    rw [hT] at h
    exact ⟨ok_same hO h.1 (Nat.le_of_lt h.2) (by show x.l.length + 2 * x.i ≤ x.l.length + 2 * j; have := h.1; omega) rfl, mu_lt hw (.inl (by show (0 : Int) ≤ (j : Int); omega)), .inr (by show (0 : Int) ≤ (j : Int); omega)⟩
  | ended j =>
    rw [hT] at h
    simp only at h
    subst h
    exact ⟨ok_same hO hO.le (Nat.le_refl _) (by show x.l.length + 2 * x.i ≤ x.l.length + 2 * s.size; omega) rfl, mu_lt hw (.inr ⟨hlt, Nat.le_refl _⟩), .inl rfl⟩
theorem ends_ok (hO : Okl s x) (hw : x.wr < 0) (h1 : s.size ≤ x.i) (h2 : 1 < x.m.length) : OkStep s x (endsS x) := by
  have hm : x.m.getD (x.m.length - 2) z42 ∈ x.m := by
    rw [List.getD_eq_getElem?_getD, List.getElem?_eq_getElem (by omega)]; exact List.getElem_mem _
  have h0 : 0 ≤ (endsS x).wr := by
    show (0 : Int) ≤ (if _ then _ else _)
    split
    · exact hO.at_ _ (top_mem _ hO.m0)
    · exact hO.at_ _ hm
  exact ⟨ok_same hO (Nat.le_refl _) hO.le (Nat.le_refl _) rfl, mu_lt hw (.inl h0), .inr h0⟩
theorem step_ok (hO : Okl s x) (hg : goesOn s x = true) : OkStep s x (stepS s x) := by
  unfold goesOn at hg
  rw [Bool.and_eq_true, Bool.or_eq_true, decide_eq_true_eq, decide_eq_true_eq, decide_eq_true_eq] at hg
  obtain ⟨hw, hg⟩ := hg
  unfold stepS
  split
  · next h => exact ends_ok hO hw h (by rcases hg with hg | hg <;> omega)
  · next h =>
    split
    · next ht => exact text_ok hO hw (by omega) ht
    · exact code_ok hO hw (by omega)
theorem start_ok (h : s.size ≤ 16384) : Okl s startS := Okl.of h (Nat.zero_le _) (Nat.le_refl _) ⟨by decide, by decide, by decide, by decide, rfl⟩
/-- what holds at the start and is kept holds at the end -/
theorem run_ind (P : LS → Prop) (hP : ∀ x, Okl s x → P x → goesOn s x = true → P (stepS s x)) : ∀ (n : Nat) (x : LS), Okl s x → P x → mu s x ≤ n → P (runS s n x) ∧ Okl s (runS s n x) ∧ goesOn s (runS s n x) = false := by
  intro n
  induction n with
  | zero =>
    intro x hO hx hn
    refine ⟨hx, hO, ?_⟩
    unfold goesOn
    unfold mu at hn
    split at hn
    · omega
    · next h => rw [runS, decide_eq_false h]; rfl
  | succ n ih =>
    intro x hO hx hn
    rw [runS]
    split
    · next hg =>
      have h := step_ok hO hg
      exact ih _ h.ok (hP x hO hx hg) (by have := h.mu; omega)
    · next hg => exact ⟨hx, hO, by simpa using hg⟩
theorem end_ind (h : s.size ≤ 16384) (P : LS → Prop) (h0 : P startS) (hP : ∀ x, Okl s x → P x → goesOn s x = true → P (stepS s x)) : P (endS s) ∧ Okl s (endS s) ∧ goesOn s (endS s) = false :=
  run_ind P hP (s.size + 2) startS (start_ok h) h0 (by unfold mu startS; simp)
end Go.Proofs.Ytgenfggjonhmgaa.Lx
