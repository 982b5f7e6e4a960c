/- proto: what was written is read; what is read is written so. Plain. Own work. -/
import Derived.Test.YtoblfdloakkmmaaDecA
namespace Go.Proofs.Ytoblfdloakkmmaa.Pure
set_option linter.unusedVariables false
open Go.RowKit Go.Proofs.Ytoblfdloakkmmaa.Mp Go.Proofs.Ytoblfdloakkmmaa.PL Go.Proofs.Ytoblfdloakkmmaa.Rd Go.Proofs.YtoblfdloakkmmaaW.PrintWords Go.Proofs.YtoblfdloakkmmaaW.PrintLast Go.Proofs.YtoblfdloakkmmaaW.PrintMore

theorem str_bytes (s : ByteArray) : strOfNums (bytesOf s) = s := by
  unfold strOfNums bytesOf
  rw [List.map_map]
  have : ((fun n : Int => UInt8.ofNat n.toNat) ∘ fun b : UInt8 => (b.toNat : Int)) = id := by
    funext b
    simp
  rw [this, List.map_id]
theorem bytes_str {l : List Int} (h : B8 l) : bytesOf (strOfNums l) = l := by
  unfold bytesOf
  rw [strOfNums_data, List.map_map]
  conv => rhs; rw [← List.map_id l]
  refine List.map_congr_left fun x hx => ?_
  have := h x hx
  simp only [Function.comp, id]
  rw [UInt8.toNat_ofNat']
  omega
theorem LE_V {l : List Int} (h : B8 l) : LE (V l) l.length = l := V_inj (LE_B8 _ _) h (LE_length _ _) (V_LE _ _ (V_lt h))
theorem wrapU {n : Int} (h : (Lit.int .i64 n).wf = true) : IntKind.i64.wrap ((U n : Nat) : Int) = n := by
  have h1 : -9223372036854775808 ≤ n ∧ n ≤ 9223372036854775807 := wf_i64 h
  have h2 : ((U n : Nat) : Int) = n % 18446744073709551616 := by unfold U; omega
  rw [h2, IntKind.wrap_i64]
  omega
theorem U_of_wrap {v : Nat} (h : v < 18446744073709551616) : U (IntKind.i64.wrap (v : Int)) = v := by
  rw [IntKind.wrap_i64]
  unfold U
  omega
-- what was written is read
theorem tk_app (x y : List Int) (m : Nat) (h : x.length = m) : tk (x ++ y) false m = (x, y, false) := by
  unfold tk
  have hn : ¬ (false = true ∨ (x ++ y).length < m) := by rw [List.length_append]; simp; omega
  rw [if_neg hn]
  subst h
  simp
theorem up_app (n most : Nat) (y : List Int) (h : n ≤ most) (hm : most < 4294967296) : up (LE n 4 ++ y) false most = (n, y, false) := by
  unfold Rd.up
  rw [tk_app _ _ 4 (LE_length _ _)]
  simp only
  rw [V_LE n 4 (by omega), decide_eq_false (by omega)]
  rfl
theorem nl_app (y : List Int) : ∀ (nums : List Int), (∀ x ∈ nums, (Lit.int .i64 x).wf = true) → nl nums.length (nums.flatMap nb ++ y) false = (nums, y, false) := by
  intro nums
  induction nums with
  | nil => intro _; rfl
  | cons a l ih =>
    intro h
    rw [List.length_cons, List.flatMap_cons, List.append_assoc, nl, show nb a = LE (U a) 8 from rfl, tk_app _ _ 8 (LE_length _ _)]
    simp only
    rw [ih (fun x hx => h x (List.mem_cons_of_mem _ hx)), V_LE _ 8 (U_lt a), wrapU (h a (List.mem_cons_self ..))]
theorem tx_app (s : ByteArray) (y : List Int) (h : s.size ≤ 4194304) : tx (tb s ++ y) false = (s, y, false) := by
  unfold tx tb
  rw [List.append_assoc, up_app _ _ _ h (by decide)]
  simp only
  rw [tk_app _ _ _ (bytesOf_length s)]
  simp only
  rw [if_neg (by simp), str_bytes]
theorem tl_app (y : List Int) : ∀ (texts : List ByteArray), (∀ s ∈ texts, s.size ≤ 4194304) → tl texts.length (texts.flatMap tb ++ y) false = (texts, y, false) := by
  intro texts
  induction texts with
  | nil => intro _; rfl
  | cons a l ih =>
    intro h
    rw [List.length_cons, List.flatMap_cons, List.append_assoc, tl, tx_app _ _ (h a (List.mem_cons_self ..))]
    simp only
    rw [ih (fun x hx => h x (List.mem_cons_of_mem _ hx))]
theorem decBody_body (nums : List Int) (texts : List ByteArray) (h1 : ∀ x ∈ nums, (Lit.int .i64 x).wf = true) (h2 : ∀ s ∈ texts, s.size ≤ 4194304) (h3 : nums.length ≤ 64) (h4 : texts.length ≤ 1024) : decBody (bodyOf nums texts) = (false, nums, texts) := by
  unfold decBody bodyOf
  rw [List.append_assoc, List.append_assoc, up_app _ _ _ h3 (by decide)]
  simp only
  rw [nl_app _ nums h1]
  simp only
  rw [up_app _ _ _ h4 (by decide)]
  simp only
  have := tl_app [] texts h2
  rw [List.append_nil] at this
  rw [this]
  rfl
theorem decAll_frame (kind : Int) (nums : List Int) (texts : List ByteArray) (m : List Int) (hk1 : 1 ≤ kind) (hk2 : kind ≤ 100) (h1 : ∀ x ∈ nums, (Lit.int .i64 x).wf = true) (h2 : ∀ s ∈ texts, s.size ≤ 4194304) (h3 : nums.length ≤ 64) (h4 : texts.length ≤ 1024)
    (hb : (bodyOf nums texts).length ≤ 4194304) : decAll (frameOf kind (bodyOf nums texts) ++ m) = (kind, nums, texts, ((frameOf kind (bodyOf nums texts)).length : Int), 0) := by
  have hl0 := frame_len kind (bodyOf nums texts)
  have e1 := frame_take3 kind (bodyOf nums texts) m
  have e2 := frame_rd3 kind (bodyOf nums texts) m
  have e3 := frame_hl kind (bodyOf nums texts) m (by omega)
  have e5 : ((frameOf kind (bodyOf nums texts) ++ m).take (8 + (bodyOf nums texts).length)).drop 8 = bodyOf nums texts := by
    rw [← hl0, List.take_left]
    simp [frameOf, LE, LEf, List.range'_succ]
  have e4 : is30 kind = true := by unfold is30; simp [hk1, hk2]
  rw [show kind % 256 = kind from by omega] at e2
  unfold decAll
  rw [if_neg (by rw [List.length_append]; omega), e1, if_neg (by simp), e2, e4, if_neg (by simp), e3, if_neg (by omega), if_neg (by rw [List.length_append]; omega), e5, decBody_body nums texts h1 h2 h3 h4, if_neg (by simp), hl0]
-- what is read is written so
theorem tk_inv {l : List Int} {b : Bool} {m : Nat} {a r : List Int} (h : tk l b m = (a, r, false)) : b = false ∧ l = a ++ r ∧ a.length = m := by
  unfold tk at h
  split at h
  · cases h
  · rename_i hn
    obtain ⟨rfl, rfl, _⟩ := Prod.mk.injEq .. ▸ h |> fun h => (⟨h.1, (Prod.mk.injEq .. ▸ h.2).1, trivial⟩ : _ ∧ _ ∧ True)
    refine ⟨by cases b <;> simp_all, (List.take_append_drop m l).symm, by rw [List.length_take]; omega⟩
theorem up_inv {l : List Int} {b : Bool} {most n : Nat} {r : List Int} (hb : B8 l) (h : up l b most = (n, r, false)) : b = false ∧ l = LE n 4 ++ r ∧ n ≤ most := by
  unfold Rd.up at h
  obtain ⟨a, q, b2, ht⟩ : ∃ a q b2, tk l b 4 = (a, q, b2) := ⟨_, _, _, rfl⟩
  have hB := (tk_B8 hb b 4).1
  rw [ht] at h hB
  simp only [Prod.mk.injEq] at h hB
  obtain ⟨h1, rfl, h3⟩ := h
  rw [h3] at h1
  simp only [Bool.or_eq_false_iff, decide_eq_false_iff_not] at h3
  obtain ⟨rfl, h4⟩ := h3
  obtain ⟨rfl, rfl, h5⟩ := tk_inv ht
  rw [if_neg (by simp)] at h1
  subst h1
  refine ⟨rfl, ?_, by omega⟩
  have := LE_V hB
  rw [h5] at this
  rw [this]
theorem nl_inv : ∀ (k : Nat) {l : List Int} {b : Bool} {N r : List Int} (hb : B8 l) (h : nl k l b = (N, r, false)), b = false ∧ l = N.flatMap nb ++ r ∧ N.length = k := by
  intro k
  induction k with
  | zero =>
    intro l b N r hb h
    simp only [nl, Prod.mk.injEq] at h
    obtain ⟨rfl, rfl, rfl⟩ := h
    exact ⟨rfl, rfl, rfl⟩
  | succ k ih =>
    intro l b N r hb h
    rw [nl] at h
    obtain ⟨a, q, b2, ht⟩ : ∃ a q b2, tk l b 8 = (a, q, b2) := ⟨_, _, _, rfl⟩
    have hB := tk_B8 hb b 8
    rw [ht] at h hB
    simp only at h hB
    obtain ⟨N2, r2, b3, hn⟩ : ∃ x y z, nl k q b2 = (x, y, z) := ⟨_, _, _, rfl⟩
    rw [hn] at h
    simp only [Prod.mk.injEq] at h
    obtain ⟨rfl, rfl, rfl⟩ := h
    obtain ⟨rfl, rfl, h3⟩ := ih hB.2 hn
    obtain ⟨rfl, rfl, h5⟩ := tk_inv ht
    refine ⟨rfl, ?_, by rw [List.length_cons, h3]⟩
    have hv := V_lt hB.1
    have := LE_V hB.1
    rw [h5] at this hv
    rw [List.flatMap_cons, List.append_assoc]
    unfold nb
    rw [U_of_wrap (Nat.lt_of_lt_of_le hv (by decide)), this]
theorem tx_inv {l : List Int} {b : Bool} {s : ByteArray} {r : List Int} (hb : B8 l) (h : tx l b = (s, r, false)) : b = false ∧ l = tb s ++ r := by
  unfold tx at h
  obtain ⟨n, q, b2, hu⟩ : ∃ a q b2, up l b 4194304 = (a, q, b2) := ⟨_, _, _, rfl⟩
  have hB : B8 (up l b 4194304).2.1 := (tk_B8 hb b 4).2
  rw [hu] at h hB
  simp only at h hB
  obtain ⟨a, q2, b3, ht⟩ : ∃ x y z, tk q b2 n = (x, y, z) := ⟨_, _, _, rfl⟩
  have hB2 := (tk_B8 hB b2 n).1
  rw [ht] at h hB2
  simp only [Prod.mk.injEq] at h hB2
  obtain ⟨h1, rfl, rfl⟩ := h
  rw [if_neg (by simp)] at h1
  subst h1
  obtain ⟨rfl, rfl, h5⟩ := tk_inv ht
  obtain ⟨rfl, rfl, h6⟩ := up_inv hb hu
  refine ⟨rfl, ?_⟩
  unfold tb
  rw [strOfNums_size, h5, bytes_str hB2, List.append_assoc]
theorem tx_B8' {l : List Int} (hb : B8 l) (b : Bool) : B8 (tx l b).2.1 := tx_B8 hb b
theorem tl_inv : ∀ (k : Nat) {l : List Int} {b : Bool} {T : List ByteArray} {r : List Int} (hb : B8 l) (h : tl k l b = (T, r, false)), b = false ∧ l = T.flatMap tb ++ r ∧ T.length = k := by
  intro k
  induction k with
  | zero =>
    intro l b N r hb h
    simp only [tl, Prod.mk.injEq] at h
    obtain ⟨rfl, rfl, rfl⟩ := h
    exact ⟨rfl, rfl, rfl⟩
  | succ k ih =>
    intro l b N r hb h
    rw [tl] at h
    obtain ⟨a, q, b2, ht⟩ : ∃ a q b2, tx l b = (a, q, b2) := ⟨_, _, _, rfl⟩
    have hB := tx_B8 hb b
    rw [ht] at h hB
    simp only at h hB
    obtain ⟨N2, r2, b3, hn⟩ : ∃ x y z, tl k q b2 = (x, y, z) := ⟨_, _, _, rfl⟩
    rw [hn] at h
    simp only [Prod.mk.injEq] at h
    obtain ⟨rfl, rfl, rfl⟩ := h
    obtain ⟨rfl, rfl, h3⟩ := ih hB hn
    obtain ⟨rfl, rfl⟩ := tx_inv hb ht
    exact ⟨rfl, by rw [List.flatMap_cons, List.append_assoc], by rw [List.length_cons, h3]⟩
theorem nl_B8 : ∀ (k : Nat) {l : List Int} (b : Bool), B8 l → B8 (nl k l b).2.1 := by
  intro k
  induction k with
  | zero => intro l b h; exact h
  | succ k ih => intro l b h; rw [nl]; exact ih _ (tk_B8 h b 8).2
theorem decBody_inv {p : List Int} (hb : B8 p) (h : (decBody p).1 = false) : p = bodyOf (decBody p).2.1 (decBody p).2.2 ∧ (decBody p).2.1.length ≤ 64 ∧ (decBody p).2.2.length ≤ 1024 := by
  unfold decBody at h ⊢
  obtain ⟨c1, l1, b1, h1⟩ : ∃ a q b2, up p false 64 = (a, q, b2) := ⟨_, _, _, rfl⟩
  have hB1 : B8 (up p false 64).2.1 := (tk_B8 hb false 4).2
  rw [h1] at h hB1 ⊢
  simp only at h hB1 ⊢
  obtain ⟨N, l2, b2, h2⟩ : ∃ a q b2, nl c1 l1 b1 = (a, q, b2) := ⟨_, _, _, rfl⟩
  have hB2 := nl_B8 c1 b1 hB1
  rw [h2] at h hB2 ⊢
  simp only at h hB2 ⊢
  obtain ⟨c2, l3, b3, h3⟩ : ∃ a q b4, up l2 b2 1024 = (a, q, b4) := ⟨_, _, _, rfl⟩
  have hB3 : B8 (up l2 b2 1024).2.1 := (tk_B8 hB2 b2 4).2
  rw [h3] at h hB3 ⊢
  simp only at h hB3 ⊢
  obtain ⟨T, l4, b4, h4⟩ : ∃ a q b4, tl c2 l3 b3 = (a, q, b4) := ⟨_, _, _, rfl⟩
  rw [h4] at h ⊢
  simp only [Bool.or_eq_false_iff, decide_eq_false_iff_not] at h ⊢
  obtain ⟨rfl, h5⟩ := h
  obtain ⟨rfl, rfl, g4⟩ := tl_inv c2 hB3 h4
  obtain ⟨rfl, rfl, g3⟩ := up_inv hB2 h3
  obtain ⟨rfl, rfl, g2⟩ := nl_inv c1 hB1 h2
  obtain ⟨_, rfl, g1⟩ := up_inv hb h1
  have h6 : l4 = [] := List.eq_nil_of_length_eq_zero (by omega)
  subst h6
  refine ⟨?_, by omega, by omega⟩
  unfold bodyOf
  rw [g2, g4, List.append_nil, List.append_assoc, List.append_assoc]
theorem bytesOf_B8 (s : ByteArray) : B8 (bytesOf s) := by
  intro x hx
  simp only [bytesOf, List.mem_map] at hx
  obtain ⟨u, _, rfl⟩ := hx
  have := u.toNat_lt
  omega
theorem body_B8 (nums : List Int) (texts : List ByteArray) : B8 (bodyOf nums texts) := by
  intro x hx
  simp only [bodyOf, List.mem_append, List.mem_flatMap] at hx
  rcases hx with ((h | ⟨a, _, h⟩) | h) | ⟨a, _, h⟩
  · exact LE_B8 _ _ x h
  · exact LE_B8 _ _ x h
  · exact LE_B8 _ _ x h
  · simp only [tb, List.mem_append] at h
    rcases h with h | h
    · exact LE_B8 _ _ x h
    · exact bytesOf_B8 _ x h
theorem head_split (l : List Int) (h : Nat) (h8 : 8 + h ≤ l.length) (ht : l.take 3 = [80, 68, 1]) (hb : B8 l) (hh : hl l = h) : frameOf (rd l 3) ((l.take (8 + h)).drop 8) = l.take (8 + h) := by
  have hp : ((l.take (8 + h)).drop 8).length = h := by rw [List.length_drop, List.length_take]; omega
  have h4 : LE h 4 = (l.drop 4).take 4 := by
    have hl4 : ((l.drop 4).take 4).length = 4 := by rw [List.length_take, List.length_drop]; omega
    have := LE_V (l := (l.drop 4).take 4) ((hb.drop 4).take 4)
    rw [hl4] at this
    rw [← hh]
    exact this
  have h3 : rd l 3 % 256 = rd l 3 := by have := hb.rd 3; omega
  have e3 : l.drop 3 = rd l 3 :: l.drop 4 := by
    rw [List.drop_eq_getElem_cons (by omega : 3 < l.length)]
    have : rd l 3 = l[3] := by
      have := rd_nat l 3
      rw [show ((3 : Nat) : Int) = 3 from rfl] at this
      rw [this, getD_lt _ _ _ (by omega)]
    rw [this]
  unfold frameOf
  rw [hp, h4, h3]
  have e1 : l.take (8 + h) = l.take 8 ++ (l.take (8 + h)).drop 8 := by
    have := (List.take_append_drop 8 (l.take (8 + h))).symm
    rw [List.take_take, Nat.min_eq_left (by omega)] at this
    exact this
  have e2 : l.take 8 = [80, 68, 1, rd l 3] ++ (l.drop 4).take 4 := by
    have a1 : l.take 8 = l.take 3 ++ (l.drop 3).take 5 := by rw [← List.take_add]
    rw [a1, ht, e3]
    rfl
  rw [← e2]
  exact e1.symm
theorem decAll_inv (l : List Int) (hb : B8 l) : (decAll l).2.2.2.2 ≠ 0 ∨ ∃ kd ns ts, decAll l = (kd, ns, ts, ((frameOf kd (bodyOf ns ts)).length : Int), 0) ∧ frameOf kd (bodyOf ns ts) = l.take (frameOf kd (bodyOf ns ts)).length ∧ (frameOf kd (bodyOf ns ts)).length ≤ l.length ∧
    1 ≤ kd ∧ kd ≤ 100 ∧ ns.length ≤ 64 ∧ ts.length ≤ 1024 ∧ (bodyOf ns ts).length ≤ 4194304 := by
  by_cases h1 : l.length < 8
  · left; unfold decAll; rw [if_pos h1]; decide
  by_cases h2 : l.take 3 ≠ [80, 68, 1]
  · left; unfold decAll; rw [if_neg h1, if_pos h2]; decide
  by_cases h3 : is30 (rd l 3) = false
  · left; unfold decAll; rw [if_neg h1, if_neg h2, if_pos h3]; decide
  by_cases h4 : 4194304 < hl l
  · left; unfold decAll; rw [if_neg h1, if_neg h2, if_neg h3, if_pos h4]; decide
  by_cases h5 : l.length < 8 + hl l
  · left; unfold decAll; rw [if_neg h1, if_neg h2, if_neg h3, if_neg h4, if_pos h5]; decide
  by_cases h6 : (decBody ((l.take (8 + hl l)).drop 8)).1 = true
  · left; unfold decAll; rw [if_neg h1, if_neg h2, if_neg h3, if_neg h4, if_neg h5, if_pos h6]; decide
  right
  have h2' : l.take 3 = [80, 68, 1] := Classical.not_not.1 h2
  have hs := head_split l (hl l) (by omega) h2' hb rfl
  have hB : B8 ((l.take (8 + hl l)).drop 8) := (hb.take _).drop _
  obtain ⟨g1, g2, g3⟩ := decBody_inv hB (by simpa using h6)
  have hp : ((l.take (8 + hl l)).drop 8).length = hl l := by rw [List.length_drop, List.length_take]; omega
  have hfl := frame_len (rd l 3) ((l.take (8 + hl l)).drop 8)
  have ht : decAll l = (rd l 3, (decBody ((l.take (8 + hl l)).drop 8)).2.1, (decBody ((l.take (8 + hl l)).drop 8)).2.2, ((8 + hl l : Nat) : Int), 0) := by unfold decAll; rw [if_neg h1, if_neg h2, if_neg h3, if_neg h4, if_neg h5, if_neg h6]
  have hk : is30 (rd l 3) = true := by simpa using h3
  unfold is30 at hk
  simp only [Bool.and_eq_true, decide_eq_true_eq] at hk
  refine ⟨rd l 3, _, _, ?_, ?_, ?_, hk.1, hk.2, g2, g3, ?_⟩
  · rw [← g1, hfl, hp]; exact ht
  · rw [← g1, hfl, hp]; exact hs
  · rw [← g1, hfl, hp]; omega
  · rw [← g1, hp]; omega
end Go.Proofs.Ytoblfdloakkmmaa.Pure
