/- lex: any bytes, written as a text. Own work. -/
import Derived.Test.YtgenfggjonhmgaaLxNum
namespace Go.Proofs.Ytgenfggjonhmgaa.Lx
set_option linter.unusedVariables false
set_option linter.unusedSimpArgs false
open Go.RowKit Go.Proofs.Ytgenfggjonhmgaa.Ml Go.Proofs.Ytgenfggjonhmgaa.PL Go.Proofs.YtgenfggjonhmgaaW.PrintWords Go.Proofs.YtgenfggjonhmgaaW.PrintLast Go.Proofs.YtgenfggjonhmgaaW.PrintMore
def escI (c : Int) : List Int := if c = 34 ∨ c = 92 ∨ c = 36 then [92, c] else [c]
def escIs (l : List Int) : List Int := l.flatMap escI
theorem getD_drop (b : List Int) (i j : Nat) (c : Int) (t : List Int) (h : b.drop i = c :: t) : b.getD i 0 = c ∧ b.drop (i + 1) = t ∧ i < b.length := by
  have hi : i < b.length := by
    rcases Nat.lt_or_ge i b.length with hi | hi
    · exact hi
    · rw [List.drop_eq_nil_of_le hi] at h; cases h
  rw [List.drop_eq_getElem_cons hi] at h
  injection h with h1 h2
  refine ⟨?_, h2, hi⟩
  rw [List.getD_eq_getElem?_getD, List.getElem?_eq_getElem hi]; exact h1
theorem textE_esc (b : List Int) : ∀ (q : List Int) (n i : Nat) (a rest : List Int), b.drop i = escIs q ++ (34 :: rest) → q.length < n → textE b n i a = .shut (i + (escIs q).length) (a ++ q) := by
  intro q
  induction q with
  | nil =>
    intro n i a rest h hn
    obtain ⟨n, rfl⟩ : ∃ m, n = m + 1 := ⟨n - 1, by omega⟩
    obtain ⟨h1, h2, h3⟩ := getD_drop b i 0 34 rest h
    rw [textE, if_neg (by omega), if_pos h1]
    simp [escIs]
  | cons c q ih =>
    intro n i a rest h hn
    obtain ⟨n, rfl⟩ : ∃ m, n = m + 1 := ⟨n - 1, by omega⟩
    have hq : escIs (c :: q) = escI c ++ escIs q := rfl
    rw [hq, List.append_assoc] at h
    rw [hq]
    by_cases hc : c = 34 ∨ c = 92 ∨ c = 36
    · have he : escI c = [92, c] := if_pos hc
      rw [he] at h ⊢
      obtain ⟨h1, h2, h3⟩ := getD_drop b i 0 92 _ h
      obtain ⟨h4, h5, h6⟩ := getD_drop b (i + 1) 0 c _ h2
      have hes : escB c = some c := by rcases hc with rfl | rfl | rfl <;> decide
      rw [textE, if_neg (by omega), if_neg (by rw [h1]; decide), if_neg (by rw [h1]; rintro ⟨h, _⟩; revert h; decide), if_pos h1, h4, hes]
      simp only
      rw [ih n (i + 2) (a ++ [c]) rest h5 (by simpa using hn)]
      simp
      omega
    · have he : escI c = [c] := if_neg hc
      rw [he] at h ⊢
      obtain ⟨h1, h2, h3⟩ := getD_drop b i 0 c _ h
      rw [textE, if_neg (by omega), h1, if_neg (by omega), if_neg (by omega), if_neg (by omega), ih n (i + 1) (a ++ [c]) rest h2 (by simpa using hn)]
      simp
      omega
theorem escIs_ge (l : List Int) : l.length ≤ (escIs l).length := by
  induction l with
  | nil => exact Nat.le_refl _
  | cons c l ih =>
    have : escIs (c :: l) = escI c ++ escIs l := rfl
    rw [this, List.length_append, List.length_cons]
    have : 1 ≤ (escI c).length := by unfold escI; split <;> simp
    omega
theorem escIs_le (l : List Int) : (escIs l).length ≤ 2 * l.length := by
  induction l with
  | nil => exact Nat.le_refl _
  | cons c l ih =>
    have : escIs (c :: l) = escI c ++ escIs l := rfl
    rw [this, List.length_append, List.length_cons]
    have : (escI c).length ≤ 2 := by unfold escI; split <;> simp
    omega
theorem bytesOf_nums (l : List Int) (h : B8 l) : bytesOf (strOfNums l) = l := by
  unfold bytesOf
  rw [strOfNums_data, List.map_map]
  conv => rhs; rw [← List.map_id l]
  refine List.map_congr_left fun c hc => ?_
  have := h c hc
  show (((UInt8.ofNat c.toNat).toNat : Nat) : Int) = c
  rw [UInt8.toNat_ofNat', Nat.mod_eq_of_lt (by omega)]; omega
theorem nums_size (l : List Int) : (strOfNums l).size = l.length := by rw [← data_length, strOfNums_data, List.length_map]
theorem nums_app (a b : List Int) : strOfNums a ++ strOfNums b = strOfNums (a ++ b) := by
  apply ba_ext
  rw [ByteArray.data_append, Array.toList_append, strOfNums_data, strOfNums_data, strOfNums_data, List.map_append]
theorem b8_escIs {l : List Int} (h : B8 l) : B8 (escIs l) := by
  intro c hc
  obtain ⟨d, hd, hc⟩ := List.mem_flatMap.1 hc
  unfold escI at hc
  have := h d hd
  split at hc
  · rcases List.mem_cons.1 hc with rfl | hc
    · omega
    · rw [List.mem_singleton] at hc; subst hc; exact this
  · rw [List.mem_singleton] at hc; subst hc; exact this
theorem lex_text (l : List Int) (h8 : B8 l) (hl : l.length ≤ 2000) : lexS (strOfNums ([34] ++ (escIs l ++ [34]))) =
    ((if l = [] then [⟨5, ⟨#[]⟩, 0⟩] else [⟨5, ⟨#[]⟩, 0⟩, ⟨6, strOfNums l, 1⟩]) ++ [⟨8, ⟨#[]⟩, ((1 + (escIs l).length : Nat) : Int)⟩, ⟨9, ⟨#[]⟩, ((2 + (escIs l).length : Nat) : Int)⟩], 0, 0) := by
  have hle := escIs_le l
  have hge := escIs_ge l
  obtain ⟨s, hs⟩ : ∃ s, strOfNums ([34] ++ (escIs l ++ [34])) = s := ⟨_, rfl⟩
  have hby : bytesOf s = [34] ++ (escIs l ++ [34]) := by
    rw [← hs]
    exact bytesOf_nums _ (fun c hc => by
      rcases List.mem_append.1 hc with hc | hc
      · rw [List.mem_singleton] at hc; subst hc; decide
      · rcases List.mem_append.1 hc with hc | hc
        · exact b8_escIs h8 c hc
        · rw [List.mem_singleton] at hc; subst hc; decide)
  have hsz : s.size = (escIs l).length + 2 := by rw [← hs, nums_size]; simp
  rw [hs]
  generalize hE : (escIs l).length = E at *
  have hT : textE (bytesOf s) (s.size - 1 + 1) 1 [] = .shut (1 + E) l := by
    have := textE_esc (bytesOf s) l (s.size - 1 + 1) 1 [] [] (by rw [hby]; rfl) (by omega)
    rw [hE] at this
    exact this
  have e1 : endS s = ⟨1 + E + 1, pieceL [⟨5, ⟨#[]⟩, 0⟩] l 1 ++ [⟨8, ⟨#[]⟩, ((1 + E : Nat) : Int)⟩], [⟨false, 0, 0⟩], -1⟩ := by
    have a0 : endS s = runS s (s.size + 1 + 1) startS := rfl
    have a1 : runS s (s.size + 1 + 1) startS = runS s (s.size + 1) (stepS s startS) := run_step (goes_in (by decide) (show 0 < s.size by omega))
    have a2 : stepS s startS = codeS s startS := step_code (show 0 < s.size by omega) rfl
    have a3 : codeS s startS = opensS startS := code_quote (show (bytesOf s).getD 0 0 = 34 by rw [hby]; rfl)
    have a4 : opensS startS = ⟨1, [⟨5, ⟨#[]⟩, 0⟩], [⟨false, 0, 0⟩, ⟨true, 0, 0⟩], -1⟩ := rfl
    rw [a0, a1, a2, a3, a4]
    have b1 : runS s (s.size + 1) ⟨1, [⟨5, ⟨#[]⟩, 0⟩], [⟨false, 0, 0⟩, ⟨true, 0, 0⟩], -1⟩ = runS s s.size (stepS s ⟨1, [⟨5, ⟨#[]⟩, 0⟩], [⟨false, 0, 0⟩, ⟨true, 0, 0⟩], -1⟩) := run_step (goes_in (show (-1 : Int) < 0 by decide) (show 1 < s.size by omega))
    have b2 : stepS s ⟨1, [⟨5, ⟨#[]⟩, 0⟩], [⟨false, 0, 0⟩, ⟨true, 0, 0⟩], -1⟩ = textS s ⟨1, [⟨5, ⟨#[]⟩, 0⟩], [⟨false, 0, 0⟩, ⟨true, 0, 0⟩], -1⟩ := step_text (show 1 < s.size by omega) rfl
    have b3 : textS s ⟨1, [⟨5, ⟨#[]⟩, 0⟩], [⟨false, 0, 0⟩, ⟨true, 0, 0⟩], -1⟩ = ⟨1 + E + 1, pieceL [⟨5, ⟨#[]⟩, 0⟩] l 1 ++ [⟨8, ⟨#[]⟩, ((1 + E : Nat) : Int)⟩], [⟨false, 0, 0⟩], -1⟩ := by
      unfold textS
      simp only
      rw [hT]
      rfl
    rw [b1, b2, b3]
    exact run_stop (goes_end (show s.size ≤ 1 + E + 1 by omega) (Nat.le_refl 1))
  rw [lexS_of (by omega) e1, if_neg (by show ¬ (0 : Int) ≤ -1; decide), hsz, show ((E + 2 : Nat) : Int) = ((2 + E : Nat) : Int) by omega]
  unfold pieceL
  by_cases h0 : l = []
  · rw [if_pos h0, if_pos h0]; rfl
  · rw [if_neg h0, if_neg h0]; rfl
end Go.Proofs.Ytgenfggjonhmgaa.Lx
