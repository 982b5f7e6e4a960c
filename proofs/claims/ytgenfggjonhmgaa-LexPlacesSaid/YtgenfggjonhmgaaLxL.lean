/- lex: places do not fall. Own work. -/
import Derived.Test.YtgenfggjonhmgaaLxJ
namespace Go.Proofs.Ytgenfggjonhmgaa.Lx
set_option linter.unusedVariables false
set_option linter.unusedSimpArgs false
open Go.RowKit Go.Proofs.Ytgenfggjonhmgaa.Ml Go.Proofs.Ytgenfggjonhmgaa.PL Go.Proofs.YtgenfggjonhmgaaW.PrintWords Go.Proofs.YtgenfggjonhmgaaW.PrintLast Go.Proofs.YtgenfggjonhmgaaW.PrintMore
structure Plc (s : ByteArray) (x : LS) : Prop where
  mono : x.l.Pairwise (fun a b => a.f2 ≤ b.f2)
  bd : ∀ q ∈ x.l, q.f2 ≤ x.i
  wr : x.wr ≤ s.size
  md : ∀ q ∈ x.m, q.f1 ≤ x.i
variable {s : ByteArray} {x : LS}
theorem Plc.app {l : List S28} {i j : Nat} (hm : l.Pairwise (fun a b => a.f2 ≤ b.f2)) (hb : ∀ q ∈ l, q.f2 ≤ i) (t : S28) (h1 : (i : Int) ≤ t.f2) (h2 : t.f2 ≤ (j : Int)) :
    (l ++ [t]).Pairwise (fun a b => a.f2 ≤ b.f2) ∧ ∀ q ∈ l ++ [t], q.f2 ≤ j := by
  refine ⟨List.pairwise_append.2 ⟨hm, List.pairwise_singleton _ _, fun a ha b hb' => ?_⟩, fun q hq => ?_⟩
  · rw [List.mem_singleton] at hb'; subst hb'; have := hb a ha; omega
  · rcases List.mem_append.1 hq with hq | hq
    · have := hb q hq; omega
    · rw [List.mem_singleton] at hq; subst hq; exact h2
theorem Plc.same (hx : Plc s x) {y : LS} (hi : x.i ≤ y.i) (hl : y.l = x.l) (hm : ∀ q ∈ y.m, q.f1 ≤ y.i) (hw : y.wr ≤ s.size) : Plc s y :=
  ⟨by rw [hl]; exact hx.mono, by rw [hl]; exact fun q hq => by have := hx.bd q hq; omega, hw, hm⟩
theorem Plc.put (hx : Plc s x) {y : LS} (t : S28) (hi : x.i ≤ y.i) (hl : y.l = x.l ++ [t]) (h1 : (x.i : Int) ≤ t.f2) (h2 : t.f2 ≤ (y.i : Int)) (hm : ∀ q ∈ y.m, q.f1 ≤ y.i) (hw : y.wr = x.wr) : Plc s y := by
  have h := Plc.app (j := y.i) hx.mono hx.bd t h1 h2
  exact ⟨by rw [hl]; exact h.1, by rw [hl]; exact h.2, by rw [hw]; exact hx.wr, hm⟩
theorem md_up {m : List S42} {i j : Nat} (h : ∀ q ∈ m, q.f1 ≤ i) (hij : i ≤ j) : ∀ q ∈ m, q.f1 ≤ j := fun q hq => by have := h q hq; omega
theorem md_braces {m : List S42} {i : Nat} (h : ∀ q ∈ m, q.f1 ≤ (i : Int)) (h0 : 0 < m.length) (t : ByteArray) : ∀ q ∈ bracesM m t, q.f1 ≤ (i : Int) := by
  have ht := h _ (top_mem m h0)
  have hset : ∀ z : Int, ∀ q ∈ m.set (m.length - 1) ⟨(topM m).f0, (topM m).f1, z⟩, q.f1 ≤ (i : Int) := fun z q hq => by
    rcases List.mem_or_eq_of_mem_set hq with hq | hq
    · exact h q hq
    · subst hq; exact ht
  unfold bracesM
  split
  · exact h
  · split
    · exact hset _
    · split
      · split
        · exact fun q hq => h q (List.mem_of_mem_take hq)
        · exact hset _
      · exact h
theorem code_plc (hO : Okl s x) (hx : Plc s x) (hlt : x.i < s.size) : Plc s (codeS s x) := by
  unfold codeS
  simp only
  split
  · exact hx.same (by show x.i ≤ x.i + 1; omega) rfl (md_up hx.md (by show x.i ≤ x.i + 1; omega)) hx.wr
  · split
    · have h := runTo_le (fun c => !isEnd c) (bytesOf s) x.i (by rw [bytesOf_length]; exact hO.le)
      exact hx.same h.1 rfl (md_up hx.md h.1) hx.wr
    · split
      · have h := runTo_le isNam (bytesOf s) x.i (by rw [bytesOf_length]; exact hO.le)
        exact hx.put _ h.1 rfl (Int.le_refl _) (by show (x.i : Int) ≤ ((runTo isNam (bytesOf s) x.i : Nat) : Int); omega) (md_up hx.md h.1) rfl
      · split
        · have h := runTo_le isDig (bytesOf s) x.i (by rw [bytesOf_length]; exact hO.le)
          unfold numberS
          split
          · exact hx.same h.1 rfl (md_up hx.md h.1) (by show (x.i : Int) ≤ (s.size : Int); omega)
          · exact hx.put _ h.1 rfl (Int.le_refl _) (by show (x.i : Int) ≤ ((runTo isDig (bytesOf s) x.i : Nat) : Int); omega) (md_up hx.md h.1) rfl
        · split
          · unfold opensS
            split
            · exact hx.same (Nat.le_refl _) rfl hx.md (by show (x.i : Int) ≤ (s.size : Int); omega)
            · refine hx.put _ (Nat.le_succ _) rfl (Int.le_refl _) (by show (x.i : Int) ≤ ((x.i + 1 : Nat) : Int); omega) (fun q hq => ?_) rfl
              rcases List.mem_append.1 hq with hq | hq
              · have := hx.md q hq; show q.f1 ≤ ((x.i + 1 : Nat) : Int); omega
              · rw [List.mem_singleton] at hq; subst hq; show (x.i : Int) ≤ ((x.i + 1 : Nat) : Int); omega
          · unfold signS
            split
            · exact hx.same (Nat.le_refl _) rfl hx.md (by show (x.i : Int) ≤ (s.size : Int); omega)
            · next t ht =>
              exact hx.put _ (by show x.i ≤ x.i + t.size; omega) rfl (Int.le_refl _) (by show (x.i : Int) ≤ ((x.i + t.size : Nat) : Int); omega) (md_up (md_braces hx.md hO.m0 t) (by show x.i ≤ x.i + t.size; omega)) rfl
theorem text_plc (hO : Okl s x) (hx : Plc s x) (hlt : x.i < s.size) : Plc s (textS s x) := by
  have h := textE_ok (bytesOf s) (s.size - x.i + 1) x.i [] (by rw [bytesOf_length]; exact hO.le) (by rw [bytesOf_length]; omega)
  rw [bytesOf_length] at h
  have hp : ∀ (a : List Int) (j : Nat), x.i ≤ j → (pieceL x.l a x.i).Pairwise (fun a b => a.f2 ≤ b.f2) ∧ ∀ q ∈ pieceL x.l a x.i, q.f2 ≤ (j : Int) := fun a j hj => by
    unfold pieceL
    split
    · exact ⟨hx.mono, fun q hq => by have := hx.bd q hq; omega⟩
    · exact Plc.app hx.mono hx.bd _ (Int.le_refl _) (by show (x.i : Int) ≤ (j : Int); omega)
  unfold textS
  cases hT : textE (bytesOf s) (s.size - x.i + 1) x.i [] with
  | shut j a =>
    rw [hT] at h
    obtain ⟨p1, p2⟩ := hp a j h.1
    obtain ⟨p3, p4⟩ := Plc.app (j := j + 1) p1 p2 ⟨8, ⟨#[]⟩, (j : Int)⟩ (Int.le_refl _) (by show (j : Int) ≤ ((j + 1 : Nat) : Int); omega)
    exact ⟨p3, p4, hx.wr, fun q hq => by have := hx.md q (List.mem_of_mem_take hq); have := h.1; show q.f1 ≤ ((j + 1 : Nat) : Int); omega⟩
  | hole j a =>
    rw [hT] at h
    obtain ⟨p1, p2⟩ := hp a j h.1
    obtain ⟨p3, p4⟩ := Plc.app (j := j + 2) p1 p2 ⟨7, ⟨#[]⟩, (j : Int)⟩ (Int.le_refl _) (by show (j : Int) ≤ ((j + 2 : Nat) : Int); omega)
    refine ⟨p3, p4, hx.wr, fun q hq => ?_⟩
    rcases List.mem_append.1 hq with hq | hq
    · have := hx.md q hq; have := h.1; show q.f1 ≤ ((j + 2 : Nat) : Int); omega
    · rw [List.mem_singleton] at hq; subst hq; show (0 : Int) ≤ ((j + 2 : Nat) : Int); omega
  | bad j =>
    rw [hT] at h
    exact hx.same h.1 rfl (md_up hx.md h.1) (by show (j : Int) ≤ (s.size : Int); have := h.2; omega)
  | ended j =>
    rw [hT] at h
    simp only at h
    subst h
    exact hx.same hO.le rfl (md_up hx.md hO.le) hx.wr
theorem step_plc (hO : Okl s x) (hx : Plc s x) (hg : goesOn s x = true) : Plc s (stepS s x) := by
  unfold goesOn at hg
  rw [Bool.and_eq_true, Bool.or_eq_true, decide_eq_true_eq, decide_eq_true_eq, decide_eq_true_eq] at hg
  obtain ⟨hw, hg⟩ := hg
  unfold stepS
  split
  · next h =>
    have hm2 : 1 < x.m.length := by rcases hg with hg | hg <;> omega
    refine hx.same (Nat.le_refl _) rfl hx.md ?_
    have hm : x.m.getD (x.m.length - 2) z42 ∈ x.m := by
      rw [List.getD_eq_getElem?_getD, List.getElem?_eq_getElem (by omega)]; exact List.getElem_mem _
    have hle := hO.le
    show (if _ then _ else _) ≤ (s.size : Int)
    split
    · have := hx.md _ (top_mem _ hO.m0); omega
    · have := hx.md _ hm; omega
  · next h =>
    split
    · exact text_plc hO hx (by omega)
    · exact code_plc hO hx (by omega)
theorem places (h : s.size ≤ 16384) : (lexS s = ([], (endS s).wr, 24) ∧ 0 ≤ (endS s).wr ∧ (endS s).wr ≤ s.size) ∨
    (lexS s = ((endS s).l ++ [⟨9, ⟨#[]⟩, (s.size : Int)⟩], 0, 0) ∧ ((endS s).l ++ [(⟨9, ⟨#[]⟩, (s.size : Int)⟩ : S28)]).Pairwise (fun a b => a.f2 ≤ b.f2)) := by
  have hE := end_ind h (Plc s) ⟨List.Pairwise.nil, fun q hq => (List.not_mem_nil hq).elim, by show (-1 : Int) ≤ (s.size : Int); omega, fun q hq => by have := List.mem_singleton.1 hq; subst this; exact Int.le_refl _⟩ (fun x hO hx hg => step_plc hO hx hg)
  obtain ⟨hP, hO, -⟩ := hE
  by_cases hw : 0 ≤ (endS s).wr
  · refine .inl ⟨?_, hw, hP.wr⟩
    unfold lexS
    rw [if_neg (by omega), if_pos hw]
  · refine .inr ⟨?_, ?_⟩
    · unfold lexS
      rw [if_neg (by omega), if_neg hw]
    · have hle := hO.le
      exact (Plc.app (j := s.size) hP.mono hP.bd ⟨9, ⟨#[]⟩, (s.size : Int)⟩ (by show ((endS s).i : Int) ≤ (s.size : Int); omega) (Int.le_refl _)).1
end Go.Proofs.Ytgenfggjonhmgaa.Lx
