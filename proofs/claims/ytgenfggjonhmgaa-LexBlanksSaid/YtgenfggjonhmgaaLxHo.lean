/- lex: a text of holes and pieces. Own work. -/
import Derived.Test.YtgenfggjonhmgaaLxTx
import Derived.KernelRfl
namespace Go.Proofs.Ytgenfggjonhmgaa.Lx
set_option linter.unusedVariables false
set_option linter.unusedSimpArgs false
open Go.RowKit Go.Proofs.Ytgenfggjonhmgaa.Ml Go.Proofs.Ytgenfggjonhmgaa.PL Go.Proofs.YtgenfggjonhmgaaW.PrintWords Go.Proofs.YtgenfggjonhmgaaW.PrintLast Go.Proofs.YtgenfggjonhmgaaW.PrintMore
def okW (w : List UInt8) : Prop := w ≠ [] ∧ ∀ c ∈ w, 97 ≤ c.toNat ∧ c.toNat ≤ 101
def holeU (w : List UInt8) : List UInt8 := [112, 36, 123] ++ (w ++ [120, 125])
def holesU (ws : List (List UInt8)) : List UInt8 := ws.flatMap holeU
def toks : Nat → List (List UInt8) → List S28
  | _, [] => []
  | p, w :: ws => ⟨6, ofL [112], (p : Int)⟩ :: ⟨7, ⟨#[]⟩, ((p + 1 : Nat) : Int)⟩ :: ⟨2, ofL (w ++ [120]), ((p + 3 : Nat) : Int)⟩ :: ⟨4, ⟨#[125]⟩, ((p + 4 + w.length : Nat) : Int)⟩ :: toks (p + 5 + w.length) ws
theorem runTo_drop (p : Int → Bool) (l d b : List Int) (k : Nat) (h : l.drop k = d ++ b) (hd : ∀ c ∈ d, p c = true) (hb : ∀ c t, b = c :: t → p c = false) : runTo p l k = k + d.length := by
  unfold runTo
  rw [h, List.takeWhile_append_of_pos hd, List.length_append]
  have : b.takeWhile p = [] := by
    cases b with
    | nil => rfl
    | cons c t => rw [List.takeWhile_cons, hb c t rfl]; rfl
  rw [this]; rfl
theorem drop_bytes (s : ByteArray) (k : Nat) (l : List UInt8) (h : s.data.toList.drop k = l) : (bytesOf s).drop k = l.map bI := by
  show (s.data.toList.map bI).drop k = _
  rw [← List.map_drop, h]
theorem isWord_x (w : List UInt8) : isWordB (ofL (w ++ [120])) = false := by
  have h : ∀ l : List UInt8, l.getLast? ≠ some 120 → ¬ (ofL (w ++ [120])).toList = l := by
    intro l hl he
    rw [toList_data, ofL_data] at he
    exact hl (by rw [← he]; simp)
  unfold isWordB lex_isWord.f
  rw [if_neg (h _ (by decide)), if_neg (h _ (by decide)), if_neg (h _ (by decide)), if_neg (h _ (by decide)), if_neg (h _ (by decide)), if_neg (h _ (by decide)), if_neg (h _ (by decide))]
  rfl
theorem sign_brace (l : List UInt8) : signAt (125 :: l) = some ⟨#[125]⟩ := by rfl
def MM : List S42 := [⟨false, 0, 0⟩, ⟨true, 0, 0⟩]
theorem hole_braces : bracesM (MM ++ [⟨false, 0, 0⟩]) ⟨#[125]⟩ = MM := by
  kernel_rfl
theorem code_sign {s : ByteArray} {x : LS} (h : (bytesOf s).getD x.i 0 = 125) : codeS s x = signS s x := by
  unfold codeS
  simp only [h]
  rw [if_neg (by decide), if_neg (by decide), if_neg (by decide), if_neg (by decide), if_neg (by decide)]
/-- one word's three steps -/
theorem run_hole (s : ByteArray) (w rest : List UInt8) (n p : Nat) (L : List S28) (hw : okW w) (h : s.data.toList.drop p = holeU w ++ rest) :
    runS s (n + 3) ⟨p, L, MM, -1⟩ = runS s n ⟨p + 5 + w.length, L ++ [⟨6, ofL [112], (p : Int)⟩, ⟨7, ⟨#[]⟩, ((p + 1 : Nat) : Int)⟩, ⟨2, ofL (w ++ [120]), ((p + 3 : Nat) : Int)⟩, ⟨4, ⟨#[125]⟩, ((p + 4 + w.length : Nat) : Int)⟩], MM, -1⟩ := by
  have hlen := congrArg List.length h
  rw [List.length_drop, data_length, List.length_append] at hlen
  have hhl : (holeU w).length = 5 + w.length := by unfold holeU; simp; omega
  rw [hhl] at hlen
  have d0 := drop_bytes s p _ h
  have d0' : (bytesOf s).drop p = 112 :: (36 :: (123 :: (w.map bI ++ (120 :: (125 :: rest.map bI))))) := by rw [d0]; unfold holeU; simp [bI]
  obtain ⟨g0, d1, -⟩ := getD_drop _ _ 0 _ _ d0'
  obtain ⟨g1, d2, -⟩ := getD_drop _ _ 0 _ _ d1
  obtain ⟨g2, d3, -⟩ := getD_drop _ _ 0 _ _ d2
  have hT : textE (bytesOf s) (s.size - p + 1) p [] = .hole (p + 1) [112] := by
    obtain ⟨m, hm⟩ : ∃ m, s.size - p + 1 = m + 1 + 1 := ⟨s.size - p - 1, by omega⟩
    rw [hm, textE, if_neg (by rw [bytesOf_length]; omega), g0, if_neg (by decide), if_neg (by rintro ⟨h, _⟩; revert h; decide), if_neg (by decide)]
    rw [textE, if_neg (by rw [bytesOf_length]; omega), g1, if_neg (by decide), if_pos ⟨rfl, g2⟩]
    rfl
  -- the text's piece and hole
  have a1 : runS s (n + 2 + 1) ⟨p, L, MM, -1⟩ = runS s (n + 2) (stepS s ⟨p, L, MM, -1⟩) := run_step (goes_in (show (-1 : Int) < 0 by decide) (show p < s.size by omega))
  have a2 : stepS s ⟨p, L, MM, -1⟩ = textS s ⟨p, L, MM, -1⟩ := step_text (show p < s.size by omega) rfl
  have a3 : textS s ⟨p, L, MM, -1⟩ = ⟨p + 3, L ++ [⟨6, ofL [112], (p : Int)⟩] ++ [⟨7, ⟨#[]⟩, ((p + 1 : Nat) : Int)⟩], MM ++ [⟨false, 0, 0⟩], -1⟩ := by
    unfold textS
    simp only
    rw [hT]
    rfl
  rw [show n + 3 = n + 2 + 1 from rfl, a1, a2, a3]
  generalize hL1 : L ++ [(⟨6, ofL [112], (p : Int)⟩ : S28)] ++ [⟨7, ⟨#[]⟩, ((p + 1 : Nat) : Int)⟩] = L1
  -- the name
  have d3u : s.data.toList.drop (p + 3) = (w ++ [120]) ++ (125 :: rest) := by
    have := congrArg (List.drop 3) h
    rw [List.drop_drop] at this
    rw [this]; unfold holeU; simp
  have hr : runTo isNam (bytesOf s) (p + 3) = p + 3 + (w.length + 1) := by
    have := runTo_drop isNam (bytesOf s) ((w ++ [120]).map bI) ((125 :: rest).map bI) (p + 3) (by rw [drop_bytes s (p + 3) _ d3u, List.map_append]) (by
      intro c hc
      obtain ⟨d, hd, rfl⟩ := List.mem_map.1 hc
      refine isLet_nam ?_
      unfold isLet bI
      rcases List.mem_append.1 hd with hd | hd
      · have := hw.2 d hd
        rw [decide_eq_true (show (97 : Int) ≤ (d.toNat : Int) by omega), decide_eq_true (show (d.toNat : Int) ≤ 122 by omega)]; rfl
      · rw [List.mem_singleton] at hd; subst hd; rfl) (by intro c t e; injection e with e _; rw [← e]; rfl)
    rw [this]; simp
  have hlet : isLet ((bytesOf s).getD (p + 3) 0) = true := by
    obtain ⟨hne, hwl⟩ := hw
    cases w with
    | nil => exact absurd rfl hne
    | cons c w =>
      have := (getD_drop _ _ 0 _ _ (show (bytesOf s).drop (p + 3) = bI c :: _ from d3)).1
      rw [this]
      have h2 := hwl c List.mem_cons_self
      unfold isLet bI
      rw [decide_eq_true (show (97 : Int) ≤ (c.toNat : Int) by omega), decide_eq_true (show (c.toNat : Int) ≤ 122 by omega)]; rfl
  have hx : s.extract (p + 3) (p + 3 + (w.length + 1)) = ofL (w ++ [120]) := by
    apply ba_ext
    rw [Lib.extract_data, d3u, ofL_data, show p + 3 + (w.length + 1) - (p + 3) = (w ++ [120]).length by rw [List.length_append, List.length_singleton]; omega, List.take_left]
  have b1 : runS s (n + 1 + 1) ⟨p + 3, L1, MM ++ [⟨false, 0, 0⟩], -1⟩ = runS s (n + 1) (stepS s ⟨p + 3, L1, MM ++ [⟨false, 0, 0⟩], -1⟩) := run_step (goes_in (show (-1 : Int) < 0 by decide) (show p + 3 < s.size by omega))
  have b2 : stepS s ⟨p + 3, L1, MM ++ [⟨false, 0, 0⟩], -1⟩ = codeS s ⟨p + 3, L1, MM ++ [⟨false, 0, 0⟩], -1⟩ := step_code (show p + 3 < s.size by omega) rfl
  have b3 : codeS s ⟨p + 3, L1, MM ++ [⟨false, 0, 0⟩], -1⟩ = nameS s ⟨p + 3, L1, MM ++ [⟨false, 0, 0⟩], -1⟩ := code_let hlet
  have b4 : nameS s ⟨p + 3, L1, MM ++ [⟨false, 0, 0⟩], -1⟩ = ⟨p + 4 + w.length, L1 ++ [⟨2, ofL (w ++ [120]), ((p + 3 : Nat) : Int)⟩], MM ++ [⟨false, 0, 0⟩], -1⟩ := by
    unfold nameS
    simp only
    rw [hr, hx, isWord_x, show p + 3 + (w.length + 1) = p + 4 + w.length by omega]
    rfl
  rw [show n + 2 = n + 1 + 1 from rfl, b1, b2, b3, b4]
  generalize hL2 : L1 ++ [(⟨2, ofL (w ++ [120]), ((p + 3 : Nat) : Int)⟩ : S28)] = L2
  -- the sign
  have d4u : s.data.toList.drop (p + 4 + w.length) = 125 :: rest := by
    have e : (w ++ [120]).length = w.length + 1 := by rw [List.length_append, List.length_singleton]
    have := congrArg (List.drop (w.length + 1)) d3u
    rw [List.drop_drop, ← e, List.drop_left, e] at this
    rw [show p + 4 + w.length = p + 3 + (w.length + 1) by omega, this]
  have g4 := (getD_drop _ _ 0 _ _ (show (bytesOf s).drop (p + 4 + w.length) = 125 :: rest.map bI from drop_bytes s _ _ d4u)).1
  have c1 : runS s (n + 1) ⟨p + 4 + w.length, L2, MM ++ [⟨false, 0, 0⟩], -1⟩ = runS s n (stepS s ⟨p + 4 + w.length, L2, MM ++ [⟨false, 0, 0⟩], -1⟩) := run_step (goes_in (show (-1 : Int) < 0 by decide) (show p + 4 + w.length < s.size by omega))
  have c2 : stepS s ⟨p + 4 + w.length, L2, MM ++ [⟨false, 0, 0⟩], -1⟩ = codeS s ⟨p + 4 + w.length, L2, MM ++ [⟨false, 0, 0⟩], -1⟩ := step_code (show p + 4 + w.length < s.size by omega) rfl
  have c3 : codeS s ⟨p + 4 + w.length, L2, MM ++ [⟨false, 0, 0⟩], -1⟩ = signS s ⟨p + 4 + w.length, L2, MM ++ [⟨false, 0, 0⟩], -1⟩ := code_sign g4
  have c4 : signS s ⟨p + 4 + w.length, L2, MM ++ [⟨false, 0, 0⟩], -1⟩ = ⟨p + 5 + w.length, L2 ++ [⟨4, ⟨#[125]⟩, ((p + 4 + w.length : Nat) : Int)⟩], MM, -1⟩ := by
    unfold signS
    simp only
    rw [to_end, d4u, sign_brace]
    simp only
    rw [hole_braces, show p + 4 + w.length + ByteArray.size ⟨#[125]⟩ = p + 5 + w.length from by show p + 4 + w.length + 1 = _; omega]
  rw [c1, c2, c3, c4, ← hL2, ← hL1]
  congr 2
  simp
theorem run_holes (s : ByteArray) : ∀ (ws : List (List UInt8)) (n p : Nat) (L : List S28), (∀ w ∈ ws, okW w) → s.data.toList.drop p = holesU ws ++ [34] → 3 * ws.length + 1 ≤ n →
    runS s n ⟨p, L, MM, -1⟩ = ⟨s.size, L ++ (toks p ws ++ [⟨8, ⟨#[]⟩, ((s.size - 1 : Nat) : Int)⟩]), [⟨false, 0, 0⟩], -1⟩ := by
  intro ws
  induction ws with
  | nil =>
    intro n p L _ h hn
    obtain ⟨n, rfl⟩ : ∃ m, n = m + 1 := ⟨n - 1, by omega⟩
    have hlen := congrArg List.length h
    rw [List.length_drop, data_length] at hlen
    have hsz : s.size = p + 1 := by simp [holesU] at hlen; omega
    have g0 := (getD_drop _ _ 0 _ _ (show (bytesOf s).drop p = 34 :: [] from drop_bytes s _ _ h)).1
    have hT : textE (bytesOf s) (s.size - p + 1) p [] = .shut p [] := by
      rw [textE, if_neg (by rw [bytesOf_length]; omega), if_pos g0]
    have a1 : runS s (n + 1) ⟨p, L, MM, -1⟩ = runS s n (stepS s ⟨p, L, MM, -1⟩) := run_step (goes_in (show (-1 : Int) < 0 by decide) (show p < s.size by omega))
    have a2 : stepS s ⟨p, L, MM, -1⟩ = textS s ⟨p, L, MM, -1⟩ := step_text (show p < s.size by omega) rfl
    have a3 : textS s ⟨p, L, MM, -1⟩ = ⟨p + 1, L ++ [⟨8, ⟨#[]⟩, (p : Int)⟩], [⟨false, 0, 0⟩], -1⟩ := by
      unfold textS
      simp only
      rw [hT]
      rfl
    rw [a1, a2, a3]
    refine (run_stop (goes_end (show s.size ≤ p + 1 by omega) (show ([⟨false, 0, 0⟩] : List S42).length ≤ 1 from Nat.le_refl 1))).trans ?_
    rw [hsz]
    rfl
  | cons w ws ih =>
    intro n p L hw h hn
    obtain ⟨n, rfl⟩ : ∃ m, n = m + 3 := ⟨n - 3, by rw [List.length_cons] at hn; omega⟩
    have hsp : holesU (w :: ws) = holeU w ++ holesU ws := rfl
    rw [hsp, List.append_assoc] at h
    have hhl : (holeU w).length = 5 + w.length := by unfold holeU; simp; omega
    have h2 : s.data.toList.drop (p + 5 + w.length) = holesU ws ++ [34] := by
      have := congrArg (List.drop (5 + w.length)) h
      rw [List.drop_drop, ← hhl, List.drop_left, hhl] at this
      rw [Nat.add_assoc]; exact this
    rw [run_hole s w _ n p L (hw w List.mem_cons_self) h, ih n (p + 5 + w.length) _ (fun v hv => hw v (List.mem_cons_of_mem _ hv)) h2 (by rw [List.length_cons] at hn; omega)]
    simp [toks]
theorem toks_len (p : Nat) (ws : List (List UInt8)) : (toks p ws).length = 4 * ws.length := by
  induction ws generalizing p with
  | nil => rfl
  | cons w ws ih => simp only [toks, List.length_cons, ih]; omega
theorem toks_get : ∀ (ws : List (List UInt8)) (p i : Nat) (w : List UInt8), ws[i]? = some w → ∃ q : Nat, ((toks p ws).drop (4 * i)).take 4 = [⟨6, ofL [112], (q : Int)⟩, ⟨7, ⟨#[]⟩, ((q + 1 : Nat) : Int)⟩, ⟨2, ofL (w ++ [120]), ((q + 3 : Nat) : Int)⟩, ⟨4, ⟨#[125]⟩, ((q + 4 + w.length : Nat) : Int)⟩] := by
  intro ws
  induction ws with
  | nil => intro p i w h; simp at h
  | cons v ws ih =>
    intro p i w h
    cases i with
    | zero =>
      simp only [List.getElem?_cons_zero, Option.some.injEq] at h
      subst h
      exact ⟨p, by simp [toks]⟩
    | succ i =>
      simp only [List.getElem?_cons_succ] at h
      obtain ⟨q, hq⟩ := ih (p + 5 + v.length) i w h
      refine ⟨q, ?_⟩
      rw [← hq, show 4 * (i + 1) = 4 * i + 4 by omega]
      simp only [toks]
      rfl
theorem lex_holes (ws : List (List UInt8)) (hw : ∀ w ∈ ws, okW w) (hn : ws.length ≤ 20) (hl : (holesU ws).length ≤ 2000) :
    lexS (ofL ([34] ++ (holesU ws ++ [34]))) = (⟨5, ⟨#[]⟩, 0⟩ :: (toks 1 ws ++ [⟨8, ⟨#[]⟩, (((holesU ws).length + 1 : Nat) : Int)⟩, ⟨9, ⟨#[]⟩, (((holesU ws).length + 2 : Nat) : Int)⟩]), 0, 0) := by
  obtain ⟨s, hs⟩ : ∃ s, ofL ([34] ++ (holesU ws ++ [34])) = s := ⟨_, rfl⟩
  have hsz : s.size = (holesU ws).length + 2 := by rw [← hs, ofL_size]; simp
  have hge : 3 * ws.length ≤ (holesU ws).length := by
    clear hw hn hl hs hsz
    induction ws with
    | nil => exact Nat.le_refl _
    | cons w ws ih =>
      have : holesU (w :: ws) = holeU w ++ holesU ws := rfl
      rw [this, List.length_append, List.length_cons]
      have : 5 ≤ (holeU w).length := by unfold holeU; simp
      omega
  have hd : s.data.toList.drop 1 = holesU ws ++ [34] := by rw [← hs]; rfl
  have hd0 : s.data.toList.drop 0 = 34 :: (holesU ws ++ [34]) := by rw [← hs]; rfl
  have g0 := (getD_drop _ _ 0 _ _ (show (bytesOf s).drop 0 = 34 :: _ from drop_bytes s _ _ hd0)).1
  have e1 : endS s = ⟨s.size, [⟨5, ⟨#[]⟩, 0⟩] ++ (toks 1 ws ++ [⟨8, ⟨#[]⟩, ((s.size - 1 : Nat) : Int)⟩]), [⟨false, 0, 0⟩], -1⟩ := by
    have a0 : endS s = runS s (s.size + 1 + 1) startS := rfl
    have a1 : runS s (s.size + 1 + 1) startS = runS s (s.size + 1) (stepS s startS) := run_step (goes_in (by decide) (show 0 < s.size by omega))
    have a2 : stepS s startS = codeS s startS := step_code (show 0 < s.size by omega) rfl
    have a3 : codeS s startS = opensS startS := code_quote g0
    have a4 : opensS startS = ⟨1, [⟨5, ⟨#[]⟩, 0⟩], MM, -1⟩ := rfl
    rw [a0, a1, a2, a3, a4]
    exact run_holes s ws (s.size + 1) 1 _ hw hd (by omega)
  rw [hs, lexS_of (by omega) e1, if_neg (by show ¬ (0 : Int) ≤ -1; decide), hsz]
  simp
end Go.Proofs.Ytgenfggjonhmgaa.Lx
