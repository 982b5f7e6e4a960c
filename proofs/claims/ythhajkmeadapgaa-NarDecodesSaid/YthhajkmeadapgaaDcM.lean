/- nar's reader, plain laws: what was written is read. Own work. -/
import Derived.Test.YthhajkmeadapgaaDcK
import Derived.Test.YthhajkmeadapgaaDcL
namespace Go.Proofs.Ythhajkmeadapgaa.Tree
set_option linter.unusedVariables false
set_option linter.unusedSimpArgs false
open Go.RowKit Go.Proofs.Ythhajkmeadapgaa.PL Go.Proofs.Ythhajkmeadapgaa.Mn Go.Proofs.YthhajkmeadapgaaW.PrintWords Go.Proofs.YthhajkmeadapgaaW.PrintLast Go.Proofs.YthhajkmeadapgaaW.PrintMore
theorem V_digits (n : Nat) : ∀ k, V ((List.range k).map fun i => ((n / 256 ^ i % 256 : Nat) : Int)) = n % 256 ^ k := by
  intro k
  induction k with
  | zero => simp [V, Nat.mod_one]
  | succ k ih =>
    rw [List.range_succ, List.map_append, V_append, ih, Nat.mod_pow_succ]
    simp only [List.map_cons, List.map_nil, V_one, List.length_map, List.length_range]
theorem V_num8 {n : Nat} (h : n < 18446744073709551616) : V (num8 n) = n := by
  unfold num8
  rw [V_digits, Nat.mod_eq_of_lt (by simpa using h)]
theorem num8_V {l : List Int} (h : B8 l) (hl : l.length = 8) : num8 (V l) = l := by
  have h1 := V_lt h
  rw [hl] at h1
  have h2 : (256 : Nat) ^ 8 = 18446744073709551616 := by decide
  exact V_inj (num8_B8 _) h (by rw [num8_len, hl]) (V_num8 (by omega))
theorem pad_whole (n : Nat) : (n + 7) / 8 * 8 = n + pad n := by unfold pad; omega
theorem rdT_tx {l r : List Int} (hl : l.length ≤ 2097152) : rdT (txL l ++ r) = .ok (l, r) := by
  have h8 : (txL l ++ r).take 8 = num8 l.length := by
    unfold txL
    rw [List.append_assoc, List.append_assoc, List.take_append_of_le_length (by rw [num8_len]; exact Nat.le_refl _), List.take_of_length_le (by rw [num8_len]; exact Nat.le_refl _)]
  have hd : (txL l ++ r).drop 8 = l ++ (List.replicate (pad l.length) 0 ++ r) := by
    unfold txL
    rw [List.append_assoc, List.append_assoc, List.drop_append_of_le_length (by rw [num8_len]; exact Nat.le_refl _), List.drop_of_length_le (by rw [num8_len]; exact Nat.le_refl _), List.nil_append]
  have hV : V ((txL l ++ r).take 8) = l.length := by rw [h8, V_num8 (by omega)]
  unfold rdT
  rw [hV, hd, pad_whole, if_neg (by rw [List.length_append, txL_len]; omega), if_neg (by omega), if_neg (by simp only [List.length_append, List.length_replicate]; omega)]
  have ht : (l ++ (List.replicate (pad l.length) 0 ++ r)).take (l.length + pad l.length) = l ++ List.replicate (pad l.length) (0 : Int) := by
    rw [← List.append_assoc, List.take_append_of_le_length (by simp), List.take_of_length_le (by simp)]
  have hz : (((l ++ (List.replicate (pad l.length) 0 ++ r)).take (l.length + pad l.length)).drop l.length).all (· == (0 : Int)) = true := by
    rw [ht, List.drop_append_of_le_length (Nat.le_refl _), List.drop_length, List.nil_append, List.all_eq_true]
    intro x hx
    have := List.eq_of_mem_replicate hx
    simp [this]
  rw [if_neg (by rw [hz]; simp)]
  have h1 : (l ++ (List.replicate (pad l.length) 0 ++ r)).take l.length = l := by rw [List.take_append_of_le_length (Nat.le_refl _), List.take_length]
  have h2 : (l ++ (List.replicate (pad l.length) 0 ++ r)).drop (l.length + pad l.length) = r := by
    rw [← List.append_assoc, List.drop_append_of_le_length (by simp), List.drop_of_length_le (by simp), List.nil_append]
  rw [h1, h2]
theorem txS_tx {l r : List Int} (hl : l.length ≤ 2097152) : txS (txL l ++ r, 0) = (l, (r, 0)) := txS_ok (rdT_tx hl)
theorem txS_txb {s : ByteArray} {r : List Int} (hl : s.size ≤ 2097152) : txS (tx s ++ r, 0) = (bytesOf s, (r, 0)) := by
  rw [tx_txL]; exact txS_tx (by rw [bytesOf_length]; exact hl)
theorem wd1_tx {s : ByteArray} {r : List Int} (hl : s.size ≤ 2097152) : wd1 (tx s ++ r, 0) s = (r, 0) := by
  unfold wd1
  rw [txS_txb hl, if_neg (fun h => h.2 rfl)]
theorem wdS_cons (x : RS) (s : ByteArray) (ss : List ByteArray) : wdS x (s :: ss) = wdS (wd1 x s) ss := rfl
theorem wdS_tx {r : List Int} : ∀ (ss : List ByteArray), (∀ s ∈ ss, s.size ≤ 2097152) → wdS (txs ss ++ r, 0) ss = (r, 0) := by
  intro ss
  induction ss with
  | nil => intro _; rfl
  | cons s ss ih =>
    intro h
    rw [wdS_cons, txs_cons, List.append_assoc, wd1_tx (h s List.mem_cons_self)]
    exact ih (fun x hx => h x (List.mem_cons_of_mem _ hx))
theorem tx_str {l : List Int} (h : B8 l) : tx (strOfNums l) = txL l := by rw [tx_txL, bytesOf_strOfNums h]
theorem nameOK_size {l : List ByteArray} (h : namesOK l) : ∀ s ∈ l, s.size ≤ 100 := by
  intro s hs
  obtain ⟨i, hi, rfl⟩ := List.getElem_of_mem hs
  have := h i hi
  unfold nOK at this
  rw [rdOf_nat, List.getD_eq_getElem?_getD, List.getElem?_eq_getElem hi] at this
  simp only [Option.getD_some, Bool.and_eq_true] at this
  have h2 := this.1
  unfold isE at h2
  simp only [Bool.and_eq_true, decide_eq_true_eq] at h2
  omega
theorem GT_of_chk : ∀ (N : Nat) (t : S26) (deep n F : Nat), GT N t → (chk N t deep n).1 = 0 → deep + F = 66 → GT F t := by
  intro N
  induction N with
  | zero => intro t deep n F h; exact h.elim
  | succ N ih =>
    intro t deep n F hG h hF
    rw [chk] at h
    split at h
    · cases h
    · rename_i q1
      split at h
      · rename_i q; exact absurd h q
      · split at h
        · cases h
        · obtain ⟨F, rfl⟩ : ∃ q, F = q + 1 := ⟨F - 1, by omega⟩
          refine ⟨hG.1, hG.2.1, hG.2.2.1, hG.2.2.2.1, hG.2.2.2.2.1, fun u hu => ?_⟩
          obtain ⟨m, hm⟩ := kidsC_ok _ _ _ h u hu
          exact ih u (deep + 1) m F (hG.2.2.2.2.2 u hu) hm (by omega)
theorem kidsC_congr {f g : S26 → Nat → Int × Nat} : ∀ (l : List S26), (∀ u ∈ l, ∀ m, f u m = g u m) → ∀ m, kidsC f l m = kidsC g l m := by
  intro l
  induction l with
  | nil => intro _ m; rfl
  | cons a l ih =>
    intro h m
    rw [kidsC, kidsC, h a List.mem_cons_self m]
    rw [ih (fun u hu => h u (List.mem_cons_of_mem _ hu))]
theorem chk_fuel : ∀ (N M : Nat) (t : S26) (deep n : Nat), GT N t → GT M t → chk N t deep n = chk M t deep n := by
  intro N
  induction N with
  | zero => intro M t deep n h; exact h.elim
  | succ N ih =>
    intro M t deep n h h2
    cases M with
    | zero => exact h2.elim
    | succ M =>
      rw [chk, chk]
      rw [kidsC_congr t.f4 (g := fun u m => chk M u (deep + 1) m) (fun u hu m => ih M u (deep + 1) m (h.2.2.2.2.2 u hu) (h2.2.2.2.2.2 u hu))]
theorem regS_tx {ex : Bool} {d r : List Int} (hd : d.length ≤ 2097152) (h8 : B8 d) : regS ((if ex = true then txs [sExec, sEmpty] else []) ++ (txs [sCont, strOfNums d] ++ (txs [sR] ++ r)), 0) = (ex, d, (r, 0)) := by
  have e1 : ∀ r', txS (tx sExec ++ r', 0) = (bytesOf sExec, (r', 0)) := fun r' => txS_txb (by decide)
  have e2 : ∀ r', txS (tx sCont ++ r', 0) = (bytesOf sCont, (r', 0)) := fun r' => txS_txb (by decide)
  have hne : bytesOf sCont ≠ bytesOf sExec := by decide
  have e3 : txS (tx (strOfNums d) ++ (txs [sR] ++ r), 0) = (d, (txs [sR] ++ r, 0)) := by rw [tx_str h8]; exact txS_tx hd
  have e4 : wdS (txs [sR] ++ r, 0) [sR] = (r, 0) := wdS_tx _ (by decide)
  unfold regS
  cases ex with
  | true =>
    simp only [if_true, txs_cons, txs_nil, List.append_assoc, List.nil_append]
    have e5 : ∀ r', wdS (tx sEmpty ++ r', 0) [sEmpty] = (r', 0) := fun r' => by
      have := wdS_tx (r := r') [sEmpty] (by decide)
      simpa only [txs_cons, txs_nil, List.append_assoc, List.nil_append] using this
    simp only [txs_cons, txs_nil, List.append_assoc, List.nil_append] at e3 e4
    rw [e1]
    simp only [true_and, if_true, ne_eq]
    rw [e5, e2]
    simp only [true_and, not_true, if_false]
    rw [e3]
    simp only
    rw [e4]
  | false =>
    simp only [txs_cons, txs_nil, List.append_assoc, List.nil_append, Bool.false_eq_true, if_false]
    simp only [txs_cons, txs_nil, List.append_assoc, List.nil_append] at e3 e4
    rw [e2]
    simp only [true_and, hne, if_false, ne_eq, not_true]
    rw [e3]
    simp only
    rw [e4]
theorem symS_tx {d r : List Int} (hd : d.length ≤ 2097152) (h8 : B8 d) : symS (txs [sTarget, strOfNums d] ++ (txs [sR] ++ r), 0) = (d, (r, 0)) := by
  have e5 : ∀ r', wdS (tx sTarget ++ r', 0) [sTarget] = (r', 0) := fun r' => by
    have := wdS_tx (r := r') [sTarget] (by decide)
    simpa only [txs_cons, txs_nil, List.append_assoc, List.nil_append] using this
  have e3 : txS (tx (strOfNums d) ++ (txs [sR] ++ r), 0) = (d, (txs [sR] ++ r, 0)) := by rw [tx_str h8]; exact txS_tx hd
  have e4 : wdS (txs [sR] ++ r, 0) [sR] = (r, 0) := wdS_tx _ (by decide)
  unfold symS
  simp only [txs_cons, txs_nil, List.append_assoc, List.nil_append] at e3 e4 ⊢
  rw [e5, e3]
  simp only
  rw [e4]
theorem entS_end {f : RS × Nat → S26 × RS × Nat} {L n : Nat} {s q : RS} {a : List ByteArray × List S26} (h0 : s.2 = 0) (h : txS s = (bytesOf sR, q)) : entS f (L + 1) (s, n) a = (a, q, n) := by
  rw [entS]
  rw [if_neg (fun hh => hh h0), if_pos (.inr (by rw [h])), h]
theorem entS_err {f : RS × Nat → S26 × RS × Nat} {L n : Nat} {s q : RS} {l : List Int} {a : List ByteArray × List S26} (h0 : s.2 = 0) (h : txS s = (l, q)) (hq : q.2 ≠ 0) : entS f (L + 1) (s, n) a = (a, q, n) := by
  rw [entS]
  rw [if_neg (fun hh => hh h0), if_pos (.inl (by rw [h]; exact hq)), h]
theorem entS_bad {f : RS × Nat → S26 × RS × Nat} {L n : Nat} {s : RS} {a : List ByteArray × List S26} (h0 : s.2 ≠ 0) : entS f L (s, n) a = (a, s, n) := by
  cases L with
  | zero => rw [entS]
  | succ L => rw [entS, if_pos h0]
theorem entS_odd {f : RS × Nat → S26 × RS × Nat} {L n : Nat} {s q : RS} {l : List Int} {a : List ByteArray × List S26} (h0 : s.2 = 0) (h : txS s = (l, q)) (hq : q.2 = 0) (h1 : l ≠ bytesOf sR) (h2 : l ≠ bytesOf sEntry) : entS f (L + 1) (s, n) a = (a, (q.1, 3), n) := by
  rw [entS]
  have e : flS q 3 = (q.1, 3) := by unfold flS; rw [if_pos hq]
  rw [if_neg (fun hh => hh h0), if_neg (by rw [h]; exact fun hh => hh.elim (fun x => x hq) h1), if_pos (by rw [h]; exact h2), h, e]
theorem entS_kid {f : RS × Nat → S26 × RS × Nat} {L n m : Nat} {s q q2 q3 : RS} {l : List Int} {t : S26} {a : List ByteArray × List S26} (h0 : s.2 = 0) (h : txS s = (bytesOf sEntry, q)) (hq : q.2 = 0)
    (hm : txS (wdS q [sL, sName]) = (l, q2)) (hk : f (wdS q2 [sNode], n) = (t, q3, m)) : entS f (L + 1) (s, n) a = entS f L (wdS q3 [sR], m) (a.1 ++ [strOfNums l], a.2 ++ [t]) := by
  rw [entS]
  have hne : bytesOf sEntry ≠ bytesOf sR := by decide
  rw [if_neg (fun hh => hh h0), if_neg (by rw [h]; exact fun hh => hh.elim (fun x => x hq) hne), if_neg (by rw [h]; exact fun hh => hh rfl)]
  simp only
  rw [h]
  simp only
  rw [hm]
  simp only
  rw [hk]
theorem entS_tx (f : RS × Nat → S26 × RS × Nat) (B : S26 → List Int) (C : S26 → Nat → Int × Nat) : ∀ (ks : List S26) (ns : List ByteArray) (m : Nat) (r : List Int) (L : Nat) (a : List ByteArray × List S26),
    (∀ k ∈ ks, ∀ m r, (C k m).1 = 0 → f ((B k ++ r, 0), m) = (k, (r, 0), (C k m).2)) → ns.length = ks.length → (∀ s ∈ ns, s.size ≤ 100) → (kidsC C ks m).1 = 0 → ks.length < L →
    entS f L ((kidsB B ns ks ++ (tx sR ++ r), 0), m) a = ((a.1 ++ ns, a.2 ++ ks), (r, 0), (kidsC C ks m).2) := by
  intro ks
  induction ks with
  | nil =>
    intro ns m r L a hf hn hs hc hL
    obtain ⟨L, rfl⟩ : ∃ q, L = q + 1 := ⟨L - 1, by omega⟩
    obtain rfl := List.length_eq_zero_iff.1 hn
    rw [kidsB, List.nil_append, entS_end rfl (txS_txb (by decide)), kidsC, List.append_nil, List.append_nil]
  | cons k ks ih =>
    intro ns m r L a hf hn hs hc hL
    obtain ⟨L, rfl⟩ : ∃ q, L = q + 1 := ⟨L - 1, by omega⟩
    cases ns with
    | nil => simp at hn
    | cons s ns =>
      rw [kidsC] at hc
      have h0 : (C k m).1 = 0 := by
        by_cases h : (C k m).1 = 0
        · exact h
        · rw [if_pos h] at hc; exact absurd hc h
      rw [if_neg (fun h => h h0)] at hc
      have hsz : s.size ≤ 2097152 := by have := hs s List.mem_cons_self; omega
      have e2 : ∀ r', wdS (tx sL ++ (tx sName ++ r'), 0) [sL, sName] = (r', 0) := fun r' => by
        have := wdS_tx (r := r') [sL, sName] (by decide)
        rw [txs_cons, txs_cons, txs_nil, List.append_nil, List.append_assoc] at this
        exact this
      have e3 : ∀ r', txS (tx s ++ r', 0) = (bytesOf s, (r', 0)) := fun r' => txS_txb hsz
      have e4 : ∀ r', wdS (tx sNode ++ r', 0) [sNode] = (r', 0) := fun r' => by
        have := wdS_tx (r := r') [sNode] (by decide)
        rw [txs_cons, txs_nil, List.append_nil] at this
        exact this
      have e5 : ∀ r', wdS (tx sR ++ r', 0) [sR] = (r', 0) := fun r' => by
        have := wdS_tx (r := r') [sR] (by decide)
        rw [txs_cons, txs_nil, List.append_nil] at this
        exact this
      have hB : kidsB B (s :: ns) (k :: ks) ++ (tx sR ++ r) = tx sEntry ++ (tx sL ++ (tx sName ++ (tx s ++ (tx sNode ++ (B k ++ (tx sR ++ (kidsB B ns ks ++ (tx sR ++ r)))))))) := by
        simp only [kidsB, entryB, txs_cons, txs_nil, List.append_assoc, List.nil_append, List.headD_cons, List.tail_cons]
      rw [hB]
      rw [entS_kid (l := bytesOf s) (q2 := (tx sNode ++ (B k ++ (tx sR ++ (kidsB B ns ks ++ (tx sR ++ r)))), 0)) (t := k) (q3 := (tx sR ++ (kidsB B ns ks ++ (tx sR ++ r)), 0)) (m := (C k m).2) rfl (txS_txb (by decide)) rfl (by rw [e2, e3]) (by rw [e4]; exact hf k List.mem_cons_self m _ h0)]
      rw [e5, strOfNums_bytesOf, ih ns (C k m).2 r L _ (fun u hu => hf u (List.mem_cons_of_mem _ hu)) (by simpa using hn) (fun x hx => hs x (List.mem_cons_of_mem _ hx)) hc (by simpa using hL)]
      rw [kidsC, if_neg (fun h => h h0), List.append_assoc, List.append_assoc, List.singleton_append, List.singleton_append]
theorem kidsB_ge (B : S26 → List Int) : ∀ (ks : List S26) (ns : List ByteArray), ks.length ≤ (kidsB B ns ks).length := by
  intro ks
  induction ks with
  | nil => intro ns; simp [kidsB]
  | cons k ks ih =>
    intro ns
    have := ih ns.tail
    simp only [kidsB, entryB, txs_cons, List.length_append, List.length_cons, tx_len] at this ⊢
    omega
theorem nodeS_tx : ∀ (N : Nat) (t : S26) (deep n F : Nat) (r : List Int), GT N t → (chk N t deep n).1 = 0 → deep + F = 66 → nodeS F deep ((nodeB N t ++ r, 0), n) = (t, (r, 0), (chk N t deep n).2) := by
  intro N
  induction N with
  | zero => intro t deep n F r h; exact h.elim
  | succ N ih =>
    intro t deep n F r hG hc hF
    obtain ⟨-, ⟨-, a1, a2⟩, ⟨-, a3, a3'⟩, -, a4, a5⟩ := hG
    have h8 := B8.of_wf a2
    obtain ⟨T, hT⟩ : ∃ q, chk (N + 1) t deep n = q := ⟨_, rfl⟩
    rw [hT] at hc ⊢
    rw [chk] at hT
    by_cases q1 : 65536 < n + 1 ∨ 64 < deep
    · rw [if_pos q1] at hT; rw [← hT] at hc; cases hc
    · rw [if_neg q1] at hT
      by_cases q2 : formE t ≠ 0
      · rw [if_pos q2] at hT; rw [← hT] at hc; exact absurd hc q2
      · rw [if_neg q2] at hT
        by_cases q3 : ¬ namesOK t.f3
        · rw [if_pos q3] at hT; rw [← hT] at hc; cases hc
        · rw [if_neg q3] at hT
          have q2 := Classical.not_not.1 q2
          have q3 := Classical.not_not.1 q3
          obtain ⟨F, rfl⟩ : ∃ q, F = q + 1 := ⟨F - 1, by omega⟩
          have hw : ∀ r', wdS (txs [sL, sType] ++ r', 0) [sL, sType] = (r', 0) := fun r' => wdS_tx _ (by decide)
          have hb : nodeB (N + 1) t ++ r = txs [sL, sType] ++ ((if t.f0 = 1 then txs [sReg] ++ (if t.f1 = true then txs [sExec, sEmpty] else []) ++ txs [sCont, strOfNums t.f2] else if t.f0 = 3 then txs [sSym, sTarget, strOfNums t.f2] else txs [sDir] ++ kidsB (nodeB N) t.f3 t.f4) ++ (txs [sR] ++ r)) := by
            rw [nodeB]; simp only [List.append_assoc]
          have d1 : bytesOf sSym ≠ bytesOf sReg := by decide
          have d2 : bytesOf sDir ≠ bytesOf sReg := by decide
          have d3 : bytesOf sDir ≠ bytesOf sSym := by decide
          have z0' : ∀ (x : List Int), ¬ ((x, (0 : Int)) : RS).2 ≠ 0 := fun x h => h rfl
          rw [hb]
          rcases formE_ok q2 with ⟨k1, j3, j4⟩ | ⟨k1, j1, j3, j4⟩ | ⟨k1, j1, j2, j5⟩
          · have hsz : t.f2.length ≤ 2097152 := by
              unfold formE at q2
              rw [if_pos k1] at q2
              split at q2
              · cases q2
              · split at q2
                · cases q2
                · omega
            have e1 : ∀ r', txS (txs [sReg] ++ r', 0) = (bytesOf sReg, (r', 0)) := fun r' => by rw [txs_cons, txs_nil, List.append_nil]; exact txS_txb (by decide)
            rw [if_pos k1]
            simp only [List.append_assoc]
            rw [nodeS_go (fun h => q1 h.2) (by rw [hw, e1]), if_neg (z0' _), if_pos rfl]
            rw [regS_tx hsz h8, ← hT, j4, kidsC]
            obtain ⟨f0, f1, f2, f3, f4⟩ := t
            simp only at k1 j3 j4 ⊢
            rw [k1, j3, j4]
          · have hsz : t.f2.length ≤ 2097152 := by
              unfold formE at q2
              rw [if_neg (by omega), if_pos k1] at q2
              split at q2
              · cases q2
              · split at q2
                · cases q2
                · omega
            have e1 : ∀ r', txS (tx sSym ++ r', 0) = (bytesOf sSym, (r', 0)) := fun r' => txS_txb (by decide)
            have hx : txs [sSym, sTarget, strOfNums t.f2] ++ (txs [sR] ++ r) = tx sSym ++ (txs [sTarget, strOfNums t.f2] ++ (txs [sR] ++ r)) := by rw [txs_cons, List.append_assoc]
            rw [if_neg (by omega), if_pos k1, hx]
            rw [nodeS_go (fun h => q1 h.2) (by rw [hw, e1]), if_neg (z0' _), if_neg d1, if_pos rfl]
            rw [symS_tx hsz h8, ← hT, j4, kidsC]
            obtain ⟨f0, f1, f2, f3, f4⟩ := t
            simp only at k1 j1 j3 j4 ⊢
            rw [k1, j1, j3, j4]
          · have e1 : ∀ r', txS (txs [sDir] ++ r', 0) = (bytesOf sDir, (r', 0)) := fun r' => by rw [txs_cons, txs_nil, List.append_nil]; exact txS_txb (by decide)
            rw [if_neg (by omega), if_neg (by omega), List.append_assoc]
            have hr : txs [sR] ++ r = tx sR ++ r := by rw [txs_cons, txs_nil, List.append_nil]
            rw [hr]
            have hge := kidsB_ge (nodeB N) t.f4 t.f3
            rw [nodeS_go (fun h => q1 h.2) (by rw [hw, e1]), if_neg (z0' _), if_neg d2, if_neg d3, if_pos rfl]
            rw [entS_tx (nodeS F (deep + 1)) (nodeB N) (fun u m => chk N u (deep + 1) m) t.f4 t.f3 (n + 1) r _ ([], []) (fun k hk m r hcm => ih k (deep + 1) m F r (a5 k hk) hcm (by omega)) j5 (nameOK_size q3) (by rw [hT]; exact hc) (by simp only [List.length_append]; omega), hT]
            rw [List.nil_append, List.nil_append]
            obtain ⟨f0, f1, f2, f3, f4⟩ := t
            simp only at k1 j1 j2 ⊢
            rw [k1, j1, j2]
end Go.Proofs.Ythhajkmeadapgaa.Tree
/- nar's reader, plain laws: what is read without an error was written so. Own work. -/
namespace Go.Proofs.Ythhajkmeadapgaa.Tree
set_option linter.unusedVariables false
set_option linter.unusedSimpArgs false
open Go.RowKit Go.Proofs.Ythhajkmeadapgaa.PL Go.Proofs.Ythhajkmeadapgaa.Mn Go.Proofs.YthhajkmeadapgaaW.PrintWords Go.Proofs.YthhajkmeadapgaaW.PrintLast Go.Proofs.YthhajkmeadapgaaW.PrintMore
theorem B8.left {a b : List Int} (h : B8 (a ++ b)) : B8 a := fun x hx => h x (List.mem_append_left _ hx)
theorem B8.right {a b : List Int} (h : B8 (a ++ b)) : B8 b := fun x hx => h x (List.mem_append_right _ hx)
theorem rdT_inv {b l r : List Int} (h8 : B8 b) (h : rdT b = .ok (l, r)) : b = txL l ++ r ∧ l.length ≤ 2097152 := by
  unfold rdT at h
  split at h
  · cases h
  · split at h
    · cases h
    · split at h
      · cases h
      · split at h
        · cases h
        · rename_i h1 h2 h3 h4
          injection h with h
          simp only [Prod.mk.injEq] at h
          obtain ⟨n, hn⟩ : ∃ q, V (b.take 8) = q := ⟨_, rfl⟩
          rw [hn] at h h2 h3 h4
          have ht8 : (b.take 8).length = 8 := by rw [List.length_take]; omega
          have e1 : b.take 8 = num8 n := by rw [← hn]; exact (num8_V (fun x hx => h8 x (List.mem_of_mem_take hx)) ht8).symm
          have hl : l.length = n := by rw [← h.1, List.length_take]; omega
          have e2 : (b.drop 8).take ((n + 7) / 8 * 8) = l ++ List.replicate (pad n) 0 := by
            have e3 : ((b.drop 8).take ((n + 7) / 8 * 8)).take n = l := by rw [List.take_take, ← h.1]; congr 1; omega
            have e4 : ((b.drop 8).take ((n + 7) / 8 * 8)).drop n = List.replicate (pad n) 0 := by
              refine List.eq_replicate_iff.2 ⟨?_, fun x hx => ?_⟩
              · rw [List.length_drop, List.length_take]; have := pad_whole n; omega
              · have h5 := Bool.not_eq_false _ |>.mp h4
                have := List.all_eq_true.1 h5 x hx
                simpa using this
            rw [← e3, ← e4, List.take_append_drop]
          refine ⟨?_, by omega⟩
          unfold txL
          rw [hl, ← e1, List.append_assoc, List.append_assoc, ← h.2]
          conv => lhs; rw [← List.take_append_drop 8 b, ← List.take_append_drop ((n + 7) / 8 * 8) (b.drop 8), e2]
          rw [List.append_assoc]
theorem txS_inv {b l : List Int} {k : Int} {q : RS} (h8 : B8 b) (h : txS (b, k) = (l, q)) (hq : q.2 = 0) : k = 0 ∧ b = txL l ++ q.1 ∧ l.length ≤ 2097152 ∧ B8 l ∧ B8 q.1 := by
  by_cases hk : k = 0
  · subst hk
    cases e : rdT b with
    | error k =>
      have hne : k ≠ 0 := by
        rw [txS_err e] at h
        unfold rdT at e
        intro hk
        subst hk
        split at e
        · injection e with e; omega
        · split at e
          · injection e with e; omega
          · split at e
            · injection e with e; omega
            · split at e
              · injection e with e; omega
              · cases e
      rw [txS_err e] at h
      injection h with h1 h2
      subst h2
      exact absurd hq hne
    | ok x =>
      obtain ⟨x, r⟩ := x
      rw [txS_ok e] at h
      injection h with h1 h2
      subst h1 h2
      obtain ⟨a, c⟩ := rdT_inv h8 e
      have h9 : B8 (txL x ++ r) := by rw [← a]; exact h8
      refine ⟨rfl, a, c, fun y hy => h9 y ?_, B8.right h9⟩
      unfold txL
      simp [hy]
  · rw [txS_bad hk] at h
    injection h with h1 h2
    subst h2
    exact absurd hq hk
theorem wd1_inv {s q : RS} {u : ByteArray} (h8 : B8 s.1) (h : wd1 s u = q) (hq : q.2 = 0) : s.2 = 0 ∧ s.1 = tx u ++ q.1 ∧ B8 q.1 := by
  obtain ⟨b, k⟩ := s
  obtain ⟨l, r, hl⟩ : ∃ l r, txS (b, k) = (l, r) := ⟨_, _, rfl⟩
  unfold wd1 at h
  rw [hl] at h
  split at h
  · subst h; exact absurd hq (by show (3 : Int) ≠ 0; decide)
  · rename_i hn
    subst h
    obtain ⟨a, c, d, e, f⟩ := txS_inv h8 hl hq
    refine ⟨a, ?_, f⟩
    have hlu : l = bytesOf u := Classical.byContradiction fun hh => hn ⟨hq, hh⟩
    rw [tx_txL, ← hlu]
    exact c
theorem wdS_inv : ∀ (ss : List ByteArray) {s q : RS}, B8 s.1 → wdS s ss = q → q.2 = 0 → s.2 = 0 ∧ s.1 = txs ss ++ q.1 ∧ B8 q.1 := by
  intro ss
  induction ss with
  | nil => intro s q h8 h hq; subst h; exact ⟨hq, rfl, h8⟩
  | cons u ss ih =>
    intro s q h8 h hq
    rw [wdS_cons] at h
    obtain ⟨m, hm⟩ : ∃ m, wd1 s u = m := ⟨_, rfl⟩
    rw [hm] at h
    by_cases h0 : m.2 = 0
    · obtain ⟨a, b, c⟩ := wd1_inv h8 hm h0
      obtain ⟨d, e, f⟩ := ih c h hq
      exact ⟨a, by rw [b, e, txs_cons, List.append_assoc], f⟩
    · rw [wdS_bad h0] at h
      subst h
      exact absurd hq h0
theorem regS_inv {s : RS} (h8 : B8 s.1) (hq : (regS s).2.2.2 = 0) : s.2 = 0 ∧ B8 (regS s).2.2.1 ∧ B8 (regS s).2.1 ∧
    s.1 = (if (regS s).1 = true then txs [sExec, sEmpty] else []) ++ (txs [sCont, strOfNums (regS s).2.1] ++ (txs [sR] ++ (regS s).2.2.1)) := by
  obtain ⟨ex, x, s1, ha⟩ : ∃ ex x s1, (if (txS s).2.2 = 0 ∧ (txS s).1 = bytesOf sExec then (true, (txS (wdS (txS s).2 [sEmpty])).1, (txS (wdS (txS s).2 [sEmpty])).2) else (false, (txS s).1, (txS s).2) : Bool × List Int × RS) = (ex, x, s1) := ⟨_, _, _, rfl⟩
  obtain ⟨s3, hs3⟩ : ∃ q : RS, (if s1.2 = 0 ∧ x ≠ bytesOf sCont then (s1.1, 3) else s1 : RS) = q := ⟨_, rfl⟩
  obtain ⟨d, s4, hd⟩ : ∃ d s4, txS s3 = (d, s4) := ⟨_, _, rfl⟩
  obtain ⟨s5, hw⟩ : ∃ s5, wdS s4 [sR] = s5 := ⟨_, rfl⟩
  have hR : regS s = (ex, d, s5) := by
    unfold regS
    simp only
    rw [ha]
    simp only
    rw [hs3, hd]
    simp only
    rw [hw]
  rw [hR] at hq ⊢
  simp only at hq ⊢
  have key : ∀ {y : RS}, B8 y.1 → txS y = (x, s1) → y.2 = 0 ∧ B8 s5.1 ∧ B8 d ∧ y.1 = txs [sCont, strOfNums d] ++ (txs [sR] ++ s5.1) := by
    intro y hy8 hy
    by_cases h1 : s1.2 = 0
    · obtain ⟨a1, a2, a3, a4, a5⟩ := txS_inv hy8 hy h1
      have hx : x = bytesOf sCont := Classical.byContradiction fun hh => by
        rw [if_pos ⟨h1, hh⟩] at hs3
        have h3 : s3.2 ≠ 0 := by rw [← hs3]; show (3 : Int) ≠ 0; decide
        rw [txS_bad h3] at hd
        injection hd with hd1 hd2
        rw [← hd2, wdS_bad h3] at hw
        rw [← hw] at hq
        exact h3 hq
      rw [if_neg (fun hh => hh.2 hx)] at hs3
      subst hs3
      by_cases h4 : s4.2 = 0
      · obtain ⟨b1, b2, b3, b4, b5⟩ := txS_inv a5 hd h4
        obtain ⟨c1, c2, c3⟩ := wdS_inv [sR] b5 hw hq
        refine ⟨a1, c3, b4, ?_⟩
        rw [a2, hx, b2, c2]
        simp only [txs_cons, txs_nil, List.append_assoc, List.append_nil, List.nil_append, tx_txL, bytesOf_strOfNums b4]
      · rw [wdS_bad h4] at hw
        rw [← hw] at hq
        exact absurd hq h4
    · rw [if_neg (fun hh => h1 hh.1)] at hs3
      subst hs3
      rw [txS_bad h1] at hd
      injection hd with hd1 hd2
      rw [← hd2, wdS_bad h1] at hw
      rw [← hw] at hq
      exact absurd hq h1
  split at ha
  · rename_i hh
    simp only [Prod.mk.injEq] at ha
    obtain ⟨rfl, ha2, ha3⟩ := ha
    obtain ⟨m, hm⟩ : ∃ m, wdS (txS s).2 [sEmpty] = m := ⟨_, rfl⟩
    rw [hm] at ha2 ha3
    obtain ⟨a1, a2, a3, a4, a5⟩ := txS_inv (b := s.1) (k := s.2) (l := (txS s).1) (q := (txS s).2) h8 rfl hh.1
    by_cases hm0 : m.2 = 0
    · obtain ⟨b1, b2, b3⟩ := wdS_inv [sEmpty] a5 hm hm0
      obtain ⟨c1, c2, c3, c4⟩ := key b3 (show txS m = (x, s1) by rw [← ha2, ← ha3])
      refine ⟨a1, c2, c3, ?_⟩
      rw [if_pos rfl, a2, hh.2, b2, c4]
      simp only [txs_cons, txs_nil, List.append_assoc, List.append_nil, List.nil_append, tx_txL]
    · have h1 : s1.2 ≠ 0 := by rw [← ha3, txS_bad hm0]; exact hm0
      rw [if_neg (fun hh => h1 hh.1)] at hs3
      subst hs3
      rw [txS_bad h1] at hd
      injection hd with hd1 hd2
      rw [← hd2, wdS_bad h1] at hw
      rw [← hw] at hq
      exact absurd hq h1
  · simp only [Prod.mk.injEq] at ha
    obtain ⟨rfl, ha2, ha3⟩ := ha
    obtain ⟨c1, c2, c3, c4⟩ := key h8 (show txS s = (x, s1) by rw [← ha2, ← ha3])
    exact ⟨c1, c2, c3, by rw [if_neg (by decide), List.nil_append]; exact c4⟩
theorem symS_inv {s : RS} (h8 : B8 s.1) (hq : (symS s).2.2 = 0) : s.2 = 0 ∧ B8 (symS s).2.1 ∧ B8 (symS s).1 ∧ s.1 = txs [sTarget, strOfNums (symS s).1] ++ (txs [sR] ++ (symS s).2.1) := by
  obtain ⟨m, hm⟩ : ∃ m, wdS s [sTarget] = m := ⟨_, rfl⟩
  obtain ⟨d, s4, hd⟩ : ∃ d s4, txS m = (d, s4) := ⟨_, _, rfl⟩
  obtain ⟨s5, hw⟩ : ∃ s5, wdS s4 [sR] = s5 := ⟨_, rfl⟩
  have hR := symS_of hm hd hw
  rw [hR] at hq ⊢
  simp only at hq ⊢
  have h4 : s4.2 = 0 := Classical.byContradiction fun h4 => by
    rw [wdS_bad h4] at hw
    rw [← hw] at hq
    exact h4 hq
  have hm0 : m.2 = 0 := Classical.byContradiction fun hm0 => by
    rw [txS_bad hm0] at hd
    injection hd with hd1 hd2
    rw [← hd2] at h4
    exact hm0 h4
  obtain ⟨a1, a2, a3⟩ := wdS_inv [sTarget] h8 hm hm0
  obtain ⟨b1, b2, b3, b4, b5⟩ := txS_inv a3 hd h4
  obtain ⟨c1, c2, c3⟩ := wdS_inv [sR] b5 hw hq
  refine ⟨a1, c3, b4, ?_⟩
  rw [a2, b2, c2]
  simp only [txs_cons, txs_nil, List.append_assoc, List.append_nil, List.nil_append, tx_txL, bytesOf_strOfNums b4]
theorem kidsB_snoc (B : S26 → List Int) : ∀ (ks : List S26) (ns : List ByteArray) (s : ByteArray) (k : S26), ns.length = ks.length → kidsB B (ns ++ [s]) (ks ++ [k]) = kidsB B ns ks ++ entryB s (B k) := by
  intro ks
  induction ks with
  | nil => intro ns s k h; obtain rfl := List.length_eq_zero_iff.1 h; simp [kidsB]
  | cons a ks ih =>
    intro ns s k h
    cases ns with
    | nil => simp at h
    | cons n ns => rw [List.cons_append, List.cons_append, kidsB, kidsB, List.headD_cons, List.headD_cons, List.tail_cons, List.tail_cons, ih ns s k (by simpa using h), List.append_assoc]
theorem wdS_zero {s q : RS} {ss : List ByteArray} (h : wdS s ss = q) (hq : q.2 = 0) : s.2 = 0 := Classical.byContradiction fun hh => by rw [wdS_bad hh] at h; rw [← h] at hq; exact hh hq
theorem txS_zero {s q : RS} {l : List Int} (h : txS s = (l, q)) (hq : q.2 = 0) : s.2 = 0 := Classical.byContradiction fun hh => by
  rw [txS_bad hh] at h
  injection h with h1 h2
  rw [← h2] at hq
  exact hh hq
theorem entS_inv (f : RS × Nat → S26 × RS × Nat) (B : S26 → List Int) (hb : ∀ x m t q m', f (x, m) = (t, q, m') → q.2 = 0 → x.2 = 0) (hf : ∀ x m t q m', B8 x.1 → f (x, m) = (t, q, m') → q.2 = 0 → x.1 = B t ++ q.1 ∧ B8 q.1) :
    ∀ (L : Nat) (s : RS) (n : Nat) (a : List ByteArray × List S26) (c : List ByteArray × List S26) (q : RS) (m : Nat), B8 s.1 → entS f L (s, n) a = (c, q, m) → q.2 = 0 → s.1.length < L → a.1.length = a.2.length →
      s.2 = 0 ∧ c.1.length = c.2.length ∧ B8 q.1 ∧ kidsB B a.1 a.2 ++ s.1 = kidsB B c.1 c.2 ++ (tx sR ++ q.1) := by
  intro L
  induction L with
  | zero => intro s n a c q m h8 h hq hL; omega
  | succ L ih =>
    intro s n a c q m h8 h hq hL hal
    by_cases h0 : s.2 = 0
    · obtain ⟨l, r, hl⟩ : ∃ l r, txS s = (l, r) := ⟨_, _, rfl⟩
      by_cases hr : r.2 = 0
      · obtain ⟨a1, a2, a3, a4, a5⟩ := txS_inv (b := s.1) (k := s.2) h8 hl hr
        by_cases h1 : l = bytesOf sR
        · subst h1
          rw [entS_end h0 hl] at h
          simp only [Prod.mk.injEq] at h
          obtain ⟨rfl, rfl, rfl⟩ := h
          exact ⟨h0, hal, a5, by rw [a2, tx_txL]⟩
        · by_cases h2 : l = bytesOf sEntry
          · subst h2
            obtain ⟨y, hy⟩ : ∃ y, wdS r [sL, sName] = y := ⟨_, rfl⟩
            obtain ⟨nm, q2, hm⟩ : ∃ nm q2, txS y = (nm, q2) := ⟨_, _, rfl⟩
            obtain ⟨z, hz⟩ : ∃ z, wdS q2 [sNode] = z := ⟨_, rfl⟩
            obtain ⟨t, q3, m', hk⟩ : ∃ t q3 m', f (z, n) = (t, q3, m') := ⟨_, _, _, rfl⟩
            obtain ⟨v, hv⟩ : ∃ v, wdS q3 [sR] = v := ⟨_, rfl⟩
            rw [entS_kid (l := nm) (q2 := q2) (t := t) (q3 := q3) (m := m') h0 hl hr (by rw [hy]; exact hm) (by rw [hz]; exact hk), hv] at h
            have hv0 : v.2 = 0 := Classical.byContradiction fun hv0 => by
              rw [entS_bad hv0] at h
              simp only [Prod.mk.injEq] at h
              rw [← h.2.1] at hq
              exact hv0 hq
            have h3 : q3.2 = 0 := wdS_zero hv hv0
            have hz0 : z.2 = 0 := hb z n t q3 m' hk h3
            have hq2 : q2.2 = 0 := wdS_zero hz hz0
            have hy0 : y.2 = 0 := txS_zero hm hq2
            have hlen := txS_fall (s := s) (by rw [hl]; exact hr)
            rw [hl] at hlen
            obtain ⟨b1, b2, b3⟩ := wdS_inv _ a5 hy hy0
            obtain ⟨c1, c2, c3, c4, c5⟩ := txS_inv (b := y.1) (k := y.2) b3 hm hq2
            obtain ⟨d1, d2, d3⟩ := wdS_inv _ c5 hz hz0
            obtain ⟨e2, e3⟩ := hf z n t q3 m' d3 hk h3
            obtain ⟨f1, f2, f3⟩ := wdS_inv _ e3 hv hv0
            have hvl : v.1.length < L := by
              have g1 : r.1.length = v.1.length + ((txs [sL, sName]).length + (txL nm).length + (txs [sNode]).length + (B t).length + (txs [sR]).length) := by
                rw [b2, c2, d2, e2, f2]; simp only [List.length_append]; omega
              simp only at hlen
              omega
            obtain ⟨g1, g2, g3, g4⟩ := ih v m' (a.1 ++ [strOfNums nm], a.2 ++ [t]) c q m f3 h hq hvl (by simp [hal])
            refine ⟨h0, g2, g3, ?_⟩
            rw [← g4]
            simp only
            rw [kidsB_snoc B _ _ _ _ hal, a2, b2, c2, d2, e2, f2]
            simp only [entryB, txs_cons, txs_nil, List.append_assoc, List.append_nil, List.nil_append, tx_txL, bytesOf_strOfNums c4]
          · rw [entS_odd h0 hl hr h1 h2] at h
            simp only [Prod.mk.injEq] at h
            rw [← h.2.1] at hq
            exact absurd hq (by show (3 : Int) ≠ 0; decide)
      · rw [entS_err h0 hl hr] at h
        simp only [Prod.mk.injEq] at h
        rw [← h.2.1] at hq
        exact absurd hq hr
    · rw [entS_bad h0] at h
      simp only [Prod.mk.injEq] at h
      rw [← h.2.1] at hq
      exact absurd hq h0
theorem nodeS_zero {F deep n m : Nat} {s q : RS} {t : S26} (h : nodeS F deep (s, n) = (t, q, m)) (hq : q.2 = 0) : s.2 = 0 := Classical.byContradiction fun hh => by
  cases F with
  | zero =>
    rw [nodeS] at h
    simp only [Prod.mk.injEq] at h
    rw [← h.2.1] at hq
    exact hh hq
  | succ F =>
    rw [nodeS_bad hh] at h
    simp only [Prod.mk.injEq] at h
    rw [← h.2.1] at hq
    exact hh hq
theorem nodeS_inv : ∀ (F deep : Nat), deep + F = 66 → 0 < F → ∀ (s : RS) (n : Nat) (t : S26) (q : RS) (m : Nat), B8 s.1 → nodeS F deep (s, n) = (t, q, m) → q.2 = 0 → s.1 = nodeB F t ++ q.1 ∧ B8 q.1 := by
  intro F
  induction F with
  | zero => intro deep hF h0; omega
  | succ F ih =>
    intro deep hF _ s n t q m h8 h hq
    have hs := nodeS_zero h hq
    by_cases hlong : s.2 = 0 ∧ (65536 < n + 1 ∨ 64 < deep)
    · rw [nodeS_long hlong] at h
      simp only [Prod.mk.injEq] at h
      rw [← h.2.1] at hq
      exact absurd hq (by show (5 : Int) ≠ 0; decide)
    · obtain ⟨y, hy⟩ : ∃ y, wdS s [sL, sType] = y := ⟨_, rfl⟩
      obtain ⟨l, k, hk⟩ : ∃ l k, txS y = (l, k) := ⟨_, _, rfl⟩
      rw [nodeS_go (l := l) (q := k) hlong (by rw [hy]; exact hk)] at h
      by_cases hk0 : k.2 = 0
      · have hy0 : y.2 = 0 := txS_zero hk hk0
        obtain ⟨a1, a2, a3⟩ := wdS_inv _ h8 hy hy0
        obtain ⟨b1, b2, b3, b4, b5⟩ := txS_inv (b := y.1) (k := y.2) a3 hk hk0
        rw [if_neg (fun hh => hh hk0)] at h
        rw [nodeB]
        by_cases e1 : l = bytesOf sReg
        · rw [if_pos e1] at h
          simp only [Prod.mk.injEq] at h
          obtain ⟨rfl, rfl, rfl⟩ := h
          obtain ⟨c1, c2, c3, c4⟩ := regS_inv b5 hq
          refine ⟨?_, c2⟩
          simp only
          rw [if_pos trivial, a2, b2, e1, ← tx_txL, c4]
          simp only [txs_cons, txs_nil, List.append_assoc, List.append_nil, List.nil_append]
        · rw [if_neg e1] at h
          by_cases e2 : l = bytesOf sSym
          · rw [if_pos e2] at h
            simp only [Prod.mk.injEq] at h
            obtain ⟨rfl, rfl, rfl⟩ := h
            obtain ⟨c1, c2, c3, c4⟩ := symS_inv b5 hq
            refine ⟨?_, c2⟩
            simp only
            rw [if_neg (by decide), if_pos trivial, a2, b2, e2, ← tx_txL, c4]
            simp only [txs_cons, txs_nil, List.append_assoc, List.append_nil, List.nil_append]
          · rw [if_neg e2] at h
            by_cases e3 : l = bytesOf sDir
            · rw [if_pos e3] at h
              obtain ⟨c, q', m', hE⟩ : ∃ c q' m', entS (nodeS F (deep + 1)) (k.1.length + 1) (k, n + 1) ([], []) = (c, q', m') := ⟨_, _, _, rfl⟩
              rw [hE] at h
              simp only [Prod.mk.injEq] at h
              obtain ⟨rfl, rfl, rfl⟩ := h
              have hF0 : 0 < F := by
                have h2 : ¬ 64 < deep := fun hh => hlong ⟨hs, .inr hh⟩
                omega
              obtain ⟨c1, c2, c3, c4⟩ := entS_inv _ (nodeB F) (fun x m t q m' hh hq => nodeS_zero hh hq) (fun x m t q m' h8 hh hq => ih (deep + 1) (by omega) hF0 x m t q m' h8 hh hq) _ k (n + 1) ([], []) c q' m' b5 hE hq (by omega) rfl
              refine ⟨?_, c3⟩
              simp only at c4 ⊢
              rw [kidsB, List.nil_append] at c4
              rw [if_neg (by decide), if_neg (by decide), a2, b2, e3, ← tx_txL, c4]
              simp only [txs_cons, txs_nil, List.append_assoc, List.append_nil, List.nil_append]
            · rw [if_neg e3] at h
              simp only [Prod.mk.injEq] at h
              rw [← h.2.1] at hq
              unfold flS at hq
              rw [if_pos hk0] at hq
              exact absurd hq (by show (3 : Int) ≠ 0; decide)
      · rw [if_pos hk0] at h
        simp only [Prod.mk.injEq] at h
        rw [← h.2.1] at hq
        exact absurd hq hk0
theorem readS_inv {b : List Int} {last : Bool} (h8 : B8 b) (h : (readS b last).2.2 = 0) : (chk 65 (readS b last).1 1 0).1 = 0 ∧ ∃ r, b = tx sMagic ++ (nodeB 65 (readS b last).1 ++ r) ∧ (last = true → r = []) ∧ (readS b last).2.1 = b.length - r.length := by
  obtain ⟨y, hy⟩ : ∃ y, wdS (b, 0) [sMagic] = y := ⟨_, rfl⟩
  obtain ⟨t, q, m, hN⟩ : ∃ t q m, nodeS 65 1 (y, 0) = (t, q, m) := ⟨_, _, _, rfl⟩
  unfold readS at h ⊢
  rw [hy, hN] at h ⊢
  simp only at h ⊢
  unfold readT at h ⊢
  by_cases h1 : q.2 ≠ 0
  · rw [if_pos h1] at h; exact absurd h h1
  · rw [if_neg h1] at h ⊢
    by_cases h2 : last = true ∧ 0 < q.1.length
    · rw [if_pos h2] at h; exact absurd h (by show (3 : Int) ≠ 0; decide)
    · rw [if_neg h2] at h ⊢
      by_cases h3 : (chk 65 t 1 0).1 ≠ 0
      · rw [if_pos h3] at h; exact absurd h h3
      · rw [if_neg h3] at h ⊢
        have h1 := Classical.not_not.1 h1
        have h3 := Classical.not_not.1 h3
        have hy0 := nodeS_zero hN h1
        obtain ⟨a1, a2, a3⟩ := wdS_inv (s := (b, 0)) _ h8 hy hy0
        obtain ⟨b1, b2⟩ := nodeS_inv 65 1 rfl (by decide) y 0 t q m a3 hN h1
        refine ⟨h3, q.1, ?_, fun hl => ?_, rfl⟩
        · simp only at a2
          rw [a2, b1, txs_cons, txs_nil, List.append_nil]
        · exact List.length_eq_zero_iff.1 (by
            have : ¬ 0 < q.1.length := fun hh => h2 ⟨hl, hh⟩
            omega)
theorem readS_all {N : Nat} {t : S26} {r : List Int} {last : Bool} (hG : GT N t) (hc : (chk N t 1 0).1 = 0) (hl : last = true → r = []) : readS (tx sMagic ++ (nodeB N t ++ r)) last = (t, (tx sMagic ++ nodeB N t).length, 0) := by
  have e1 : wdS (tx sMagic ++ (nodeB N t ++ r), 0) [sMagic] = (nodeB N t ++ r, 0) := by
    have := wdS_tx (r := nodeB N t ++ r) [sMagic] (by decide)
    rw [txs_cons, txs_nil, List.append_nil] at this
    exact this
  unfold readS
  rw [e1, nodeS_tx N t 1 0 65 r hG hc rfl]
  unfold readT
  simp only
  rw [if_neg (fun hh => hh rfl), if_neg, if_neg]
  · rw [List.length_append, List.length_append, List.length_append]
    simp only [Prod.mk.injEq, true_and, and_true]
    omega
  · rw [chk_fuel 65 N t 1 0 (GT_of_chk N t 1 0 65 hG hc rfl) hG]
    exact fun hh => hh hc
  · rintro ⟨h1, h2⟩
    rw [hl h1] at h2
    exact absurd h2 (by simp)
end Go.Proofs.Ythhajkmeadapgaa.Tree
