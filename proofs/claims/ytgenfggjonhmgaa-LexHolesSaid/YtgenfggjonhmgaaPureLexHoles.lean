/- For every row of at most twenty words and every number: a text that is made of a piece and a hole with the word in it, for each word in turn, is read piece by piece, and in each hole stands that word. No condition. -/
import Derived.Test.YtgenfggjonhmgaaLxN
import Derived.Test.YtgenfggjonhmgaaLxHo
import Derived.Test.YtgenfggjonhmgaaMm6
namespace Go.Proofs.Ytgenfggjonhmgaa.Pure
set_option linter.unusedVariables false
open Go.RowKit Go.Proofs.Ytgenfggjonhmgaa.Ml Go.Proofs.Ytgenfggjonhmgaa.Mm Go.Proofs.Ytgenfggjonhmgaa.Lx Go.Proofs.Ytgenfggjonhmgaa.PL Go.Proofs.YtgenfggjonhmgaaW.PrintWords Go.Proofs.YtgenfggjonhmgaaW.PrintLast Go.Proofs.YtgenfggjonhmgaaW.PrintMore
def Evt (f : Nat → Option Bool) : Prop := ∃ K, ∀ k, K ≤ k → f k = some true
theorem bt_nat (w : ByteArray) (j : Nat) (h : j < w.data.toList.length) : bt w (j : Int) = ((w.data.toList[j]).toNat : Int) := by
  rw [← rd_bytesOf]
  unfold rd bytesOf
  rw [Int.toNat_natCast, List.getD_eq_getElem?_getD, List.getElem?_map, List.getElem?_eq_getElem h]; rfl
theorem rdw (l : List ByteArray) (i : Nat) (w : ByteArray) (h : l[i]? = some w) : rdOf ByteArray.empty l (i : Int) = w := by
  unfold rdOf
  rw [Int.toNat_natCast, List.getD_eq_getElem?_getD, h]; rfl
theorem l1_ev (x0 : List ByteArray) (x5 w : ByteArray) (x6 : Int) (i : Nat) (hi : x0[i]? = some w) (hw : w.size ≤ 140737488351232) (h5 : x5.size ≤ 100000)
    (hC : okW w.data.toList → w.size ≤ 50 → Evt fun k => pantrylaw22_LexHoles.l0 k x0 (((x5 ++ (⟨#[112, 36, 123]⟩ : ByteArray)) ++ w) ++ (⟨#[120, 125]⟩ : ByteArray)) (wrap64 (x6 + 4)) (wrap64 ((i : Int) + 1))) :
    ∀ (d j : Nat), j + d = w.size → (∀ c ∈ w.data.toList.take j, 97 ≤ c.toNat ∧ c.toNat ≤ 101) → Evt fun k => pantrylaw22_LexHoles.l1 k x0 x5 x6 (i : Int) (j : Int) := by
  have hlen := data_length w
  have hil : i < x0.length := by
    rcases Nat.lt_or_ge i x0.length with h | h
    · exact h
    · rw [List.getElem?_eq_none h] at hi; cases hi
  intro d
  induction d with
  | zero =>
    intro j hj hg
    have hgood : ∀ c ∈ w.data.toList, 97 ≤ c.toNat ∧ c.toNat ≤ 101 := by rw [List.take_of_length_le (by omega)] at hg; exact hg
    have s3 : (x5 ++ (⟨#[112, 36, 123]⟩ : ByteArray)).size = x5.size + 3 := by rw [ByteArray.size_append]; rfl
    have s4 : ((x5 ++ (⟨#[112, 36, 123]⟩ : ByteArray)) ++ w).size = x5.size + 3 + w.size := by rw [ByteArray.size_append, s3]
    by_cases h0 : w.toList = ([] : List UInt8)
    · refine ⟨7, fun k hk => ?_⟩
      obtain ⟨k, rfl⟩ : ∃ q, k = q + 1 := ⟨k - 1, by omega⟩
      simp only [pantrylaw22_LexHoles.l1]
      rw [rdw x0 i w hi]
      exact it (by omega) (it (by omega) (jf (by omega) (it h0 (known_t k (by omega)))))
    · by_cases h50 : (w.size : Int) > 50
      · refine ⟨7, fun k hk => ?_⟩
        obtain ⟨k, rfl⟩ : ∃ q, k = q + 1 := ⟨k - 1, by omega⟩
        simp only [pantrylaw22_LexHoles.l1]
        rw [rdw x0 i w hi]
        exact it (by omega) (it (by omega) (jf (by omega) (jf h0 (it h50 (known_t k (by omega))))))
      · obtain ⟨K, hK⟩ := hC ⟨fun h => h0 (by rw [toList_data]; exact h), hgood⟩ (by omega)
        refine ⟨K + 1, fun k hk => ?_⟩
        obtain ⟨k, rfl⟩ : ∃ q, k = q + 1 := ⟨k - 1, by omega⟩
        simp only [pantrylaw22_LexHoles.l1]
        rw [rdw x0 i w hi]
        exact it (by omega) (it (by omega) (jf (by omega) (jf h0 (jf h50 (it (by omega) (it (by rw [s3]; omega) (it (by rw [s4]; omega) (hK k (by omega)))))))))
  | succ d ih =>
    intro j hj hg
    have hjl : j < w.data.toList.length := by omega
    by_cases hlo : bt w (j : Int) < 97
    · refine ⟨7, fun k hk => ?_⟩
      obtain ⟨k, rfl⟩ : ∃ q, k = q + 1 := ⟨k - 1, by omega⟩
      simp only [pantrylaw22_LexHoles.l1]
      rw [rdw x0 i w hi]
      exact it (by omega) (it (by omega) (it (by omega) (it (by omega) (it hlo (known_t k (by omega))))))
    · by_cases hhi : bt w (j : Int) > 101
      · refine ⟨7, fun k hk => ?_⟩
        obtain ⟨k, rfl⟩ : ∃ q, k = q + 1 := ⟨k - 1, by omega⟩
        simp only [pantrylaw22_LexHoles.l1]
        rw [rdw x0 i w hi]
        exact it (by omega) (it (by omega) (it (by omega) (it (by omega) (jf hlo (it hhi (known_t k (by omega)))))))
      · have hb := bt_nat w j hjl
        obtain ⟨K, hK⟩ := ih (j + 1) (by omega) (by
          intro c hc
          rw [List.take_succ_eq_append_getElem hjl] at hc
          rcases List.mem_append.1 hc with hc | hc
          · exact hg c hc
          · rw [List.mem_singleton] at hc; subst hc; omega)
        refine ⟨K + 1, fun k hk => ?_⟩
        obtain ⟨k, rfl⟩ : ∃ q, k = q + 1 := ⟨k - 1, by omega⟩
        simp only [pantrylaw22_LexHoles.l1]
        rw [rdw x0 i w hi, w64 (n := (j : Int) + 1) (by omega) (by omega), show ((j : Int) + 1) = ((j + 1 : Nat) : Int) by omega]
        exact it (by omega) (it (by omega) (it (by omega) (it (by omega) (jf hlo (jf hhi (hK k (by omega)))))))
theorem rd28 (l : List S28) (i : Nat) (x : S28) (h : l[i]? = some x) : rd_T28 l (i : Int) = x := by
  unfold rd_T28
  rw [Int.toNat_natCast, List.getD_eq_getElem?_getD, h]; rfl
theorem l2_ev (x0 : List ByteArray) (ws : List (List UInt8)) (hws : ws = x0.map (fun w => w.data.toList)) (hn : x0.length ≤ 20) (hsz : ∀ w ∈ x0, w.size ≤ 50) (t1 t2 t3 : S28) (l : List S28) (hl : l = t1 :: (toks 1 ws ++ [t2, t3])) :
    ∀ (d i : Nat), i + d = x0.length → Evt fun k => pantrylaw22_LexHoles.l2 k x0 l (i : Int) := by
  have hll : l.length = 4 * x0.length + 3 := by rw [hl, List.length_cons, List.length_append, toks_len, hws, List.length_map]; rfl
  intro d
  induction d with
  | zero =>
    intro i hi
    refine ⟨7, fun k hk => ?_⟩
    obtain ⟨k, rfl⟩ : ∃ q, k = q + 1 := ⟨k - 1, by omega⟩
    simp only [pantrylaw22_LexHoles.l2]
    exact jf (by omega) (known_t k (by omega))
  | succ d ih =>
    intro i hi
    obtain ⟨K, hK⟩ := ih (i + 1) (by omega)
    refine ⟨K + 1, fun k hk => ?_⟩
    obtain ⟨k, rfl⟩ : ∃ q, k = q + 1 := ⟨k - 1, by omega⟩
    have hil : i < x0.length := by omega
    have hxi : x0[i]? = some x0[i] := List.getElem?_eq_getElem hil
    have hwi : ws[i]? = some x0[i].data.toList := by rw [hws, List.getElem?_map, hxi]; rfl
    obtain ⟨q, hq⟩ := toks_get ws 1 i _ hwi
    have hs := hsz x0[i] (List.getElem_mem hil)
    generalize x0[i] = w at *
    have e1 : wrap64 (1 + wrap64 (4 * (i : Int))) = ((1 + 4 * i : Nat) : Int) := by rw [w64 (n := 4 * (i : Int)) (by omega) (by omega), w64 (by omega) (by omega)]; omega
    have e2 : wrap64 (5 + wrap64 (4 * (i : Int))) = ((5 + 4 * i : Nat) : Int) := by rw [w64 (n := 4 * (i : Int)) (by omega) (by omega), w64 (by omega) (by omega)]; omega
    have e3 : wrap64 ((i : Int) + 1) = ((i + 1 : Nat) : Int) := by rw [w64 (by omega) (by omega)]; omega
    have hy : (l.take (5 + 4 * i)).drop (1 + 4 * i) = [⟨6, ofL [112], (q : Int)⟩, ⟨7, ⟨#[]⟩, ((q + 1 : Nat) : Int)⟩, ⟨2, ofL (w.data.toList ++ [120]), ((q + 3 : Nat) : Int)⟩, ⟨4, ⟨#[125]⟩, ((q + 4 + w.data.toList.length : Nat) : Int)⟩] := by
      rw [← hq, hl, show 5 + 4 * i = (4 * i + 4) + 1 by omega, show 1 + 4 * i = 4 * i + 1 by omega, List.take_succ_cons, List.drop_succ_cons, List.drop_take, show 4 * i + 4 - 4 * i = 4 by omega, List.drop_append_of_le_length (by rw [toks_len, hws, List.length_map]; omega), List.take_append_of_le_length (by rw [List.length_drop, toks_len, hws, List.length_map]; omega)]
    simp only [pantrylaw22_LexHoles.l2]
    rw [e1, e2, e3, rdw x0 i w hxi, Int.toNat_natCast, Int.toNat_natCast, hy]
    refine it (by omega) (it (by omega) (it (by omega) (it (by omega) (bd rfl ?_))))
    have hx : (ofL (w.data.toList ++ [120])).toList = (w ++ (⟨#[120]⟩ : ByteArray)).toList := by
      rw [toList_data, toList_data, ofL_data, ByteArray.data_append, Array.toList_append]
    refine it (show (0 : Int) < (4 : Nat) by decide) (it rfl (it (show (ofL [112]).toList = [112] by rw [toList_data]; rfl) (it (show (1 : Int) < (4 : Nat) by decide) (it rfl (it (show (2 : Int) < (4 : Nat) by decide) (it rfl (it (by omega) (it (by omega) (it hx (it (show (3 : Int) < (4 : Nat) by decide) (it rfl (it (show (ByteArray.toList ⟨#[125]⟩) = [125] by rw [toList_data]) (hK k (by omega))))))))))))))
theorem holes_take (x0 : List ByteArray) (i : Nat) (w : ByteArray) (h : x0[i]? = some w) : holesU ((x0.take (i + 1)).map fun w => w.data.toList) = holesU ((x0.take i).map fun w => w.data.toList) ++ holeU w.data.toList := by
  have hi : i < x0.length := by
    rcases Nat.lt_or_ge i x0.length with hi | hi
    · exact hi
    · rw [List.getElem?_eq_none hi] at h; cases h
  rw [List.getElem?_eq_getElem hi] at h
  rw [List.take_succ_eq_append_getElem hi, List.map_append, Option.some.inj h]
  unfold holesU
  rw [List.flatMap_append]
  simp
theorem l0_ev (x0 : List ByteArray) (hn : x0.length ≤ 20) (hsz : ∀ w ∈ x0, w.size ≤ 140737488351232) : ∀ (d i : Nat), i + d = x0.length → (∀ w ∈ x0.take i, okW w.data.toList ∧ w.size ≤ 50) →
    (holesU ((x0.take i).map fun w => w.data.toList)).length ≤ 55 * i →
    Evt fun k => pantrylaw22_LexHoles.l0 k x0 (ofL ([34] ++ holesU ((x0.take i).map fun w => w.data.toList))) ((2 + 4 * i : Nat) : Int) (i : Int) := by
  intro d
  induction d with
  | zero =>
    intro i hi hok hle
    rw [List.take_of_length_le (by omega)] at hok hle
    obtain ⟨ws, hws⟩ : ∃ ws, x0.map (fun w => w.data.toList) = ws := ⟨_, rfl⟩
    have hwl : ws.length = x0.length := by rw [← hws, List.length_map]
    rw [hws] at hle
    have hx := lex_holes ws (by intro w hw; rw [← hws] at hw; obtain ⟨v, hv, rfl⟩ := List.mem_map.1 hw; exact (hok v hv).1) (by omega) (by omega)
    obtain ⟨K, hK⟩ := l2_ev x0 ws hws.symm hn (fun w hw => (hok w hw).2) _ _ _ _ rfl x0.length 0 (by omega)
    refine ⟨K + 3, fun k hk => ?_⟩
    obtain ⟨k, rfl⟩ : ∃ q, k = q + 1 + 1 := ⟨k - 2, by omega⟩
    rw [List.take_of_length_le (by omega), hws]
    simp only [pantrylaw22_LexHoles.l0]
    have es : (ofL ([34] ++ holesU ws)).size = 1 + (holesU ws).length := by rw [ofL_size, List.length_append]; rfl
    have ea : ofL ([34] ++ holesU ws) ++ (⟨#[34]⟩ : ByteArray) = ofL ([34] ++ (holesU ws ++ [34])) := by
      show _ ++ ofL [34] = _
      rw [ofL_app, List.append_assoc]
    rw [ea]
    have e1 : wrap64 (((2 + 4 * i : Nat) : Int) + 1) = ((4 * x0.length + 3 : Nat) : Int) := by rw [w64 (by omega) (by omega)]; omega
    have e2 : wrap64 (((2 + 4 * i : Nat) : Int) - 1) = ((4 * x0.length + 1 : Nat) : Int) := by rw [w64 (by omega) (by omega)]; omega
    rw [e1, e2]
    refine jf (by omega) (it (by rw [es]; omega) (bd (congrArg some hx) ?_))
    obtain ⟨l, hl⟩ : ∃ l, (⟨5, ⟨#[]⟩, 0⟩ : S28) :: (toks 1 ws ++ [⟨8, ⟨#[]⟩, (((holesU ws).length + 1 : Nat) : Int)⟩, ⟨9, ⟨#[]⟩, (((holesU ws).length + 2 : Nat) : Int)⟩]) = l := ⟨_, rfl⟩
    rw [hl] at hK ⊢
    have hll : l.length = 4 * x0.length + 3 := by rw [← hl, List.length_cons, List.length_append, toks_len, hwl]; rfl
    have r0 : rd_T28 l 0 = ⟨5, ⟨#[]⟩, 0⟩ := rd28 l 0 _ (by rw [← hl]; rfl)
    have r1 : rd_T28 l ((4 * x0.length + 1 : Nat) : Int) = ⟨8, ⟨#[]⟩, (((holesU ws).length + 1 : Nat) : Int)⟩ := rd28 l _ _ (by
      rw [← hl, List.getElem?_cons_succ, List.getElem?_append_right (by rw [toks_len]; omega), toks_len, hwl, Nat.sub_self]; rfl)
    show (if (0 : Int) = 0 then _ else _) = _
    rw [r0, r1]
    refine it rfl (it (by rw [hll]) (it (by rw [hll]; omega) (it rfl (it (by omega) (it (by rw [hll]; omega) ?_)))))
    show pantrylaw22_LexHoles.j3 (k + 1) x0 l ((8 : Int) != 8) = _
    rw [show ((8 : Int) != 8) = false from rfl]
    simp only [pantrylaw22_LexHoles.j3]
    exact jf (by simp) (hK k (by omega))
  | succ d ih =>
    intro i hi hok hle
    have hil : i < x0.length := by omega
    have hxi : x0[i]? = some x0[i] := List.getElem?_eq_getElem hil
    have hs := hsz x0[i] (List.getElem_mem hil)
    have hC : okW x0[i].data.toList → x0[i].size ≤ 50 → Evt fun k => pantrylaw22_LexHoles.l0 k x0 (((ofL ([34] ++ holesU ((x0.take i).map fun w => w.data.toList)) ++ (⟨#[112, 36, 123]⟩ : ByteArray)) ++ x0[i]) ++ (⟨#[120, 125]⟩ : ByteArray)) (wrap64 (((2 + 4 * i : Nat) : Int) + 4)) (wrap64 ((i : Int) + 1)) := by
      intro h1 h2
      have ht := holes_take x0 i _ hxi
      obtain ⟨K, hK⟩ := ih (i + 1) (by omega) (by
        intro w hw
        rw [List.take_succ_eq_append_getElem hil] at hw
        rcases List.mem_append.1 hw with hw | hw
        · exact hok w hw
        · rw [List.mem_singleton] at hw; subst hw; exact ⟨h1, h2⟩) (by
        rw [ht, List.length_append]
        have : (holeU x0[i].data.toList).length = 5 + x0[i].size := by unfold holeU; rw [← data_length]; simp; omega
        omega)
      refine ⟨K, fun k hk => ?_⟩
      have e1 : wrap64 (((2 + 4 * i : Nat) : Int) + 4) = ((2 + 4 * (i + 1) : Nat) : Int) := by rw [w64 (by omega) (by omega)]; omega
      have e2 : wrap64 ((i : Int) + 1) = ((i + 1 : Nat) : Int) := by rw [w64 (by omega) (by omega)]; omega
      have e3 : ((ofL ([34] ++ holesU ((x0.take i).map fun w => w.data.toList)) ++ (⟨#[112, 36, 123]⟩ : ByteArray)) ++ x0[i]) ++ (⟨#[120, 125]⟩ : ByteArray) = ofL ([34] ++ holesU ((x0.take (i + 1)).map fun w => w.data.toList)) := by
        rw [ht]
        have : ((ofL ([34] ++ holesU ((x0.take i).map fun w => w.data.toList)) ++ ofL [112, 36, 123]) ++ ofL x0[i].data.toList) ++ ofL [120, 125] = ofL ([34] ++ (holesU ((x0.take i).map fun w => w.data.toList) ++ holeU x0[i].data.toList)) := by
          rw [ofL_app, ofL_app, ofL_app]
          congr 1
          unfold holeU
          simp
        rw [ofL_of] at this
        exact this
      rw [e1, e2, e3]
      exact hK k hk
    obtain ⟨K, hK⟩ := l1_ev x0 _ x0[i] ((2 + 4 * i : Nat) : Int) i hxi hs (by rw [ofL_size, List.length_append]; show 1 + _ ≤ 100000; omega) hC x0[i].size 0 (by omega) (fun c hc => by rw [List.take_zero] at hc; cases hc)
    refine ⟨K + 1, fun k hk => ?_⟩
    obtain ⟨k, rfl⟩ : ∃ q, k = q + 1 := ⟨k - 1, by omega⟩
    simp only [pantrylaw22_LexHoles.l0]
    exact it (by omega) (hK k (by omega))
theorem LexHoles (l0 : List ByteArray) (a1 : Int) (m0 : l0.length ≤ maxLen) (y0 : l0.length * 16 ≤ 140737488351232) (g0 : ∀ s ∈ l0, s.size ≤ 140737488351232) (w1 : (Lit.int .i64 a1).wf = true) : ∃ k, pantrylaw22_LexHoles.f k l0 a1 = some true := by
  have hj : ∀ b, b = true → pantrylaw22_LexHoles.j0 1 l0 b = some true := fun b hb => by subst hb; simp only [pantrylaw22_LexHoles.j0, if_true]
  by_cases c1 : (l0.length : Int) > 20
  · refine ⟨1, ?_⟩
    unfold pantrylaw22_LexHoles.f
    exact it c1 (hj _ rfl)
  by_cases c2 : a1 < 0
  · refine ⟨1, ?_⟩
    unfold pantrylaw22_LexHoles.f
    exact jf c1 (it c2 (hj _ rfl))
  by_cases c3 : a1 > 50
  · refine ⟨1, ?_⟩
    unfold pantrylaw22_LexHoles.f
    exact jf c1 (jf c2 (hj _ (decide_eq_true c3)))
  obtain ⟨K, hK⟩ := l0_ev l0 (by omega) g0 l0.length 0 (by omega) (fun w hw => by rw [List.take_zero] at hw; cases hw) (Nat.le_refl _)
  refine ⟨K + 1, ?_⟩
  unfold pantrylaw22_LexHoles.f
  refine jf c1 (jf c2 ?_)
  rw [decide_eq_false c3]
  simp only [pantrylaw22_LexHoles.j0]
  exact jf (by simp) (hK K (Nat.le_refl _))
end Go.Proofs.Ytgenfggjonhmgaa.Pure
