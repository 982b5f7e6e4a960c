/- nar's reader, plain laws: what is decided without what is lacking is decided so whatever stands behind. Own work. -/
import Derived.Test.YthhajkmeadapgaaDcM
namespace Go.Proofs.Ythhajkmeadapgaa.Tree
set_option linter.unusedVariables false
set_option linter.unusedSimpArgs false
open Go.RowKit Go.Proofs.Ythhajkmeadapgaa.PL Go.Proofs.Ythhajkmeadapgaa.Mn Go.Proofs.YthhajkmeadapgaaW.PrintWords Go.Proofs.YthhajkmeadapgaaW.PrintLast Go.Proofs.YthhajkmeadapgaaW.PrintMore
/-- more bytes behind -/
abbrev exS (x : List Int) (s : RS) : RS := (s.1 ++ x, s.2)
theorem rdT_ext {b x : List Int} : (∀ l r, rdT b = .ok (l, r) → rdT (b ++ x) = .ok (l, r ++ x)) ∧ ∀ k, rdT b = .error k → k ≠ 2 → rdT (b ++ x) = .error k := by
  by_cases h1 : b.length < 8
  · have e : rdT b = .error 2 := by unfold rdT; rw [if_pos h1]
    refine ⟨fun l r h => ?_, fun k h hk => ?_⟩
    · rw [e] at h; cases h
    · rw [e] at h; injection h with h; exact absurd h.symm hk
  · have t8 : (b ++ x).take 8 = b.take 8 := by rw [List.take_append_of_le_length (by omega)]
    have d8 : (b ++ x).drop 8 = b.drop 8 ++ x := by rw [List.drop_append_of_le_length (by omega)]
    have l1 : ¬ (b ++ x).length < 8 := by rw [List.length_append]; omega
    by_cases h2 : 2097152 < V (b.take 8)
    · have e : rdT b = .error 3 := by unfold rdT; rw [if_neg h1, if_pos h2]
      have e' : rdT (b ++ x) = .error 3 := by unfold rdT; rw [if_neg l1, t8, if_pos h2]
      refine ⟨fun l r h => ?_, fun k h hk => ?_⟩
      · rw [e] at h; cases h
      · rw [e'] ; rw [e] at h; exact h
    · obtain ⟨W, hW⟩ : ∃ q, (V (b.take 8) + 7) / 8 * 8 = q := ⟨_, rfl⟩
      by_cases h3 : (b.drop 8).length < W
      · have e : rdT b = .error 2 := by unfold rdT; rw [if_neg h1, if_neg h2, hW, if_pos h3]
        refine ⟨fun l r h => ?_, fun k h hk => ?_⟩
        · rw [e] at h; cases h
        · rw [e] at h; injection h with h; exact absurd h.symm hk
      · have l3 : ¬ (b.drop 8 ++ x).length < W := by rw [List.length_append]; omega
        have tW : (b.drop 8 ++ x).take W = (b.drop 8).take W := by rw [List.take_append_of_le_length (by omega)]
        have dW : (b.drop 8 ++ x).drop W = (b.drop 8).drop W ++ x := by rw [List.drop_append_of_le_length (by omega)]
        have tV : (b.drop 8 ++ x).take (V (b.take 8)) = (b.drop 8).take (V (b.take 8)) := by rw [List.take_append_of_le_length (by omega)]
        unfold rdT
        rw [if_neg h1, if_neg h2, if_neg l1, t8, if_neg h2, d8, hW, if_neg h3, if_neg l3, tW, dW, tV]
        split
        · exact ⟨fun l r h => (by cases h), fun k h _ => h⟩
        · refine ⟨fun l r h => ?_, fun k h => by cases h⟩
          injection h with h
          simp only [Prod.mk.injEq] at h
          rw [h.1, h.2]
theorem txS_ext (x : List Int) {s q : RS} {l : List Int} (h : txS s = (l, q)) (hq : q.2 ≠ 2) : txS (exS x s) = (l, exS x q) := by
  obtain ⟨b, k⟩ := s
  by_cases hk : k = 0
  · subst hk
    cases e : rdT b with
    | error k =>
      rw [txS_err e] at h
      injection h with h1 h2
      subst h1 h2
      exact txS_err (rdT_ext.2 k e hq)
    | ok v =>
      obtain ⟨v, r⟩ := v
      rw [txS_ok e] at h
      injection h with h1 h2
      subst h1 h2
      exact txS_ok (rdT_ext.1 v r e)
  · rw [txS_bad hk] at h
    injection h with h1 h2
    subst h1 h2
    rw [txS_bad hk]
theorem wd1_ext (x : List Int) {s q : RS} {u : ByteArray} (h : wd1 s u = q) (hq : q.2 ≠ 2) : wd1 (exS x s) u = exS x q := by
  obtain ⟨l, r, hl⟩ : ∃ l r, txS s = (l, r) := ⟨_, _, rfl⟩
  have hr : r.2 ≠ 2 := by
    unfold wd1 at h
    rw [hl] at h
    split at h
    · rename_i hh; rw [hh.1]; decide
    · rw [← h] at hq; exact hq
  have hx := txS_ext x hl hr
  unfold wd1 at h ⊢
  rw [hl] at h
  rw [hx]
  simp only at h ⊢
  split at h
  · rename_i hh; rw [if_pos hh, ← h]
  · rename_i hh; rw [if_neg hh, ← h]
theorem wdS_ext (x : List Int) : ∀ (ss : List ByteArray) {s q : RS}, wdS s ss = q → q.2 ≠ 2 → wdS (exS x s) ss = exS x q := by
  intro ss
  induction ss with
  | nil => intro s q h _; rw [← h]; rfl
  | cons u ss ih =>
    intro s q h hq
    rw [wdS_cons] at h ⊢
    obtain ⟨m, hm⟩ : ∃ m, wd1 s u = m := ⟨_, rfl⟩
    rw [hm] at h
    have hm2 : m.2 ≠ 2 := fun h2 => by
      rw [wdS_bad (by rw [h2]; decide)] at h
      rw [← h] at hq
      exact hq h2
    rw [wd1_ext x hm hm2]
    exact ih h hq
theorem wdS_2 {s q : RS} {ss : List ByteArray} (h : wdS s ss = q) (hq : q.2 ≠ 2) : s.2 ≠ 2 := fun h2 => by
  rw [wdS_bad (by rw [h2]; decide)] at h
  rw [← h] at hq
  exact hq h2
theorem txS_2 {s q : RS} {l : List Int} (h : txS s = (l, q)) (hq : q.2 ≠ 2) : s.2 ≠ 2 := fun h2 => by
  rw [txS_bad (by rw [h2]; decide)] at h
  injection h with h h'
  rw [← h'] at hq
  exact hq h2
theorem regS_ext (x : List Int) {s : RS} (hq : (regS s).2.2.2 ≠ 2) : regS (exS x s) = ((regS s).1, (regS s).2.1, exS x (regS s).2.2) := by
  obtain ⟨ex, y, s1, ha⟩ : ∃ ex y s1, (if (txS s).2.2 = 0 ∧ (txS s).1 = bytesOf sExec then (true, (txS (wdS (txS s).2 [sEmpty])).1, (txS (wdS (txS s).2 [sEmpty])).2) else (false, (txS s).1, (txS s).2) : Bool × List Int × RS) = (ex, y, s1) := ⟨_, _, _, rfl⟩
  obtain ⟨s3, hs3⟩ : ∃ q : RS, (if s1.2 = 0 ∧ y ≠ bytesOf sCont then (s1.1, 3) else s1 : RS) = q := ⟨_, rfl⟩
  obtain ⟨d, s4, hd⟩ : ∃ d s4, txS s3 = (d, s4) := ⟨_, _, rfl⟩
  obtain ⟨s5, hw⟩ : ∃ s5, wdS s4 [sR] = s5 := ⟨_, rfl⟩
  have hR : regS s = (ex, d, s5) := by
    unfold regS
    simp only
    rw [ha]
    simp only
    rw [hs3, hd]
    simp only
    rw [hw]
  rw [hR] at hq ⊢
  simp only at hq ⊢
  have h4 := wdS_2 hw hq
  have h3 := txS_2 hd h4
  have h1 : s1.2 ≠ 2 := fun h => by
    rw [if_neg (fun hh => by rw [h] at hh; exact absurd hh.1 (by decide))] at hs3
    rw [hs3] at h
    exact h3 h
  have es3 : (if (exS x s1).2 = 0 ∧ y ≠ bytesOf sCont then ((exS x s1).1, 3) else exS x s1 : RS) = exS x s3 := by
    rw [← hs3]
    by_cases hh : s1.2 = 0 ∧ y ≠ bytesOf sCont
    · rw [if_pos hh, if_pos hh]
    · rw [if_neg hh, if_neg hh]
  have ea : (if (txS (exS x s)).2.2 = 0 ∧ (txS (exS x s)).1 = bytesOf sExec then (true, (txS (wdS (txS (exS x s)).2 [sEmpty])).1, (txS (wdS (txS (exS x s)).2 [sEmpty])).2) else (false, (txS (exS x s)).1, (txS (exS x s)).2) : Bool × List Int × RS) = (ex, y, exS x s1) := by
    obtain ⟨l, r, hl⟩ : ∃ l r, txS s = (l, r) := ⟨_, _, rfl⟩
    obtain ⟨m, hm⟩ : ∃ m, wdS r [sEmpty] = m := ⟨_, rfl⟩
    obtain ⟨l2, r2, hl2⟩ : ∃ l r, txS m = (l, r) := ⟨_, _, rfl⟩
    rw [hl] at ha
    simp only at ha
    rw [hm, hl2] at ha
    by_cases hh : r.2 = 0 ∧ l = bytesOf sExec
    · rw [if_pos hh] at ha
      simp only [Prod.mk.injEq] at ha
      obtain ⟨rfl, rfl, rfl⟩ := ha
      have hx := txS_ext x hl (by rw [hh.1]; decide)
      rw [hx]
      simp only
      rw [if_pos hh, wdS_ext x _ hm (txS_2 hl2 h1), txS_ext x hl2 h1]
    · rw [if_neg hh] at ha
      simp only [Prod.mk.injEq] at ha
      obtain ⟨rfl, rfl, rfl⟩ := ha
      rw [txS_ext x hl h1]
      simp only
      rw [if_neg hh]
  unfold regS
  simp only
  rw [ea]
  simp only
  rw [es3, txS_ext x hd h4]
  simp only
  rw [wdS_ext x _ hw hq]
theorem symS_ext (x : List Int) {s : RS} (hq : (symS s).2.2 ≠ 2) : symS (exS x s) = ((symS s).1, exS x (symS s).2) := by
  obtain ⟨m, hm⟩ : ∃ m, wdS s [sTarget] = m := ⟨_, rfl⟩
  obtain ⟨d, s4, hd⟩ : ∃ d s4, txS m = (d, s4) := ⟨_, _, rfl⟩
  obtain ⟨s5, hw⟩ : ∃ s5, wdS s4 [sR] = s5 := ⟨_, rfl⟩
  rw [symS_of hm hd hw] at hq ⊢
  simp only at hq ⊢
  have h4 := wdS_2 hw hq
  exact symS_of (wdS_ext x _ hm (txS_2 hd h4)) (txS_ext x hd h4) (wdS_ext x _ hw hq)
theorem entS_ext (x : List Int) (f : RS × Nat → S26 × RS × Nat) (hb : ∀ y m t q m', f (y, m) = (t, q, m') → q.2 ≠ 2 → y.2 ≠ 2) (hf : ∀ y m t q m', f (y, m) = (t, q, m') → q.2 ≠ 2 → f (exS x y, m) = (t, exS x q, m'))
    (hl : ∀ y, (f y).2.1.1.length ≤ y.1.1.length) :
    ∀ (L L2 : Nat) (s : RS) (n : Nat) (a c : List ByteArray × List S26) (q : RS) (m : Nat), s.1.length < L → s.1.length + x.length < L2 → entS f L (s, n) a = (c, q, m) → q.2 ≠ 2 → entS f L2 (exS x s, n) a = (c, exS x q, m) := by
  intro L
  induction L with
  | zero => intro L2 s n a c q m hL; omega
  | succ L ih =>
    intro L2 s n a c q m hL hL2 h hq
    obtain ⟨L2, rfl⟩ : ∃ k, L2 = k + 1 := ⟨L2 - 1, by omega⟩
    by_cases h0 : s.2 = 0
    · obtain ⟨l, r, hl0⟩ : ∃ l r, txS s = (l, r) := ⟨_, _, rfl⟩
      by_cases hr : r.2 = 0
      · have hx := txS_ext x hl0 (by rw [hr]; decide)
        by_cases h1 : l = bytesOf sR
        · subst h1
          rw [entS_end h0 hl0] at h
          simp only [Prod.mk.injEq] at h
          obtain ⟨rfl, rfl, rfl⟩ := h
          exact entS_end h0 hx
        · by_cases h2 : l = bytesOf sEntry
          · subst h2
            obtain ⟨y, hy⟩ : ∃ y, wdS r [sL, sName] = y := ⟨_, rfl⟩
            obtain ⟨nm, q2, hm⟩ : ∃ nm q2, txS y = (nm, q2) := ⟨_, _, rfl⟩
            obtain ⟨z, hz⟩ : ∃ z, wdS q2 [sNode] = z := ⟨_, rfl⟩
            obtain ⟨t, q3, m', hk⟩ : ∃ t q3 m', f (z, n) = (t, q3, m') := ⟨_, _, _, rfl⟩
            obtain ⟨v, hv⟩ : ∃ v, wdS q3 [sR] = v := ⟨_, rfl⟩
            rw [entS_kid (l := nm) (q2 := q2) (t := t) (q3 := q3) (m := m') h0 hl0 hr (by rw [hy]; exact hm) (by rw [hz]; exact hk), hv] at h
            have hv2 : v.2 ≠ 2 := fun hv2 => by
              rw [entS_bad (by rw [hv2]; decide)] at h
              simp only [Prod.mk.injEq] at h
              rw [← h.2.1] at hq
              exact hq hv2
            have h3 := wdS_2 hv hv2
            have hz2 := hb z n t q3 m' hk h3
            have hq2 := wdS_2 hz hz2
            have hy2 := txS_2 hm hq2
            have hlen := txS_fall (s := s) (by rw [hl0]; exact hr)
            rw [hl0] at hlen
            have hvl : v.1.length + 8 ≤ s.1.length := by
              have g1 := wdS_len [sR] q3
              have g2 := hl (z, n)
              have g3 := wdS_len [sNode] q2
              have g4 := txS_len y
              have g5 := wdS_len [sL, sName] r
              rw [hv] at g1
              rw [hk] at g2
              rw [hz] at g3
              rw [hm] at g4
              rw [hy] at g5
              simp only at g1 g2 g3 g4 g5 hlen
              omega
            rw [entS_kid (s := exS x s) (l := nm) (q2 := exS x q2) (t := t) (q3 := exS x q3) (m := m') h0 hx hr (by rw [wdS_ext x _ hy hy2, txS_ext x hm hq2]) (by rw [wdS_ext x _ hz hz2]; exact hf z n t q3 m' hk h3), wdS_ext x _ hv hv2]
            exact ih L2 v m' _ c q m (by omega) (by omega) h hq
          · rw [entS_odd h0 hl0 hr h1 h2] at h
            simp only [Prod.mk.injEq] at h
            obtain ⟨rfl, rfl, rfl⟩ := h
            exact entS_odd (s := exS x s) h0 hx hr h1 h2
      · rw [entS_err h0 hl0 hr] at h
        simp only [Prod.mk.injEq] at h
        obtain ⟨rfl, rfl, rfl⟩ := h
        exact entS_err h0 (txS_ext x hl0 hq) hr
    · rw [entS_bad h0] at h
      simp only [Prod.mk.injEq] at h
      obtain ⟨rfl, rfl, rfl⟩ := h
      exact entS_bad h0
theorem nodeS_2 {F deep n m : Nat} {s q : RS} {t : S26} (h : nodeS F deep (s, n) = (t, q, m)) (hq : q.2 ≠ 2) : s.2 ≠ 2 := fun hh => by
  cases F with
  | zero =>
    rw [nodeS] at h
    simp only [Prod.mk.injEq] at h
    rw [← h.2.1] at hq
    exact hq hh
  | succ F =>
    rw [nodeS_bad (by rw [hh]; decide)] at h
    simp only [Prod.mk.injEq] at h
    rw [← h.2.1] at hq
    exact hq hh
theorem nodeS_ext (x : List Int) : ∀ (F deep : Nat) (s : RS) (n : Nat) (t : S26) (q : RS) (m : Nat), nodeS F deep (s, n) = (t, q, m) → q.2 ≠ 2 → nodeS F deep (exS x s, n) = (t, exS x q, m) := by
  intro F
  induction F with
  | zero =>
    intro deep s n t q m h hq
    rw [nodeS] at h ⊢
    simp only [Prod.mk.injEq] at h
    obtain ⟨rfl, rfl, rfl⟩ := h
    rfl
  | succ F ih =>
    intro deep s n t q m h hq
    have hs := nodeS_2 h hq
    by_cases hlong : s.2 = 0 ∧ (65536 < n + 1 ∨ 64 < deep)
    · rw [nodeS_long hlong] at h
      simp only [Prod.mk.injEq] at h
      obtain ⟨rfl, rfl, rfl⟩ := h
      exact nodeS_long hlong
    · obtain ⟨y, hy⟩ : ∃ y, wdS s [sL, sType] = y := ⟨_, rfl⟩
      obtain ⟨l, k, hk⟩ : ∃ l k, txS y = (l, k) := ⟨_, _, rfl⟩
      rw [nodeS_go (l := l) (q := k) hlong (by rw [hy]; exact hk)] at h
      have key : k.2 ≠ 2 → txS (wdS (exS x s) [sL, sType]) = (l, exS x k) := fun hk2 => by
        rw [wdS_ext x _ hy (txS_2 hk hk2), txS_ext x hk hk2]
      by_cases hk0 : k.2 = 0
      · have hlong' : ¬ ((exS x s).2 = 0 ∧ (65536 < n + 1 ∨ 64 < deep)) := hlong
        rw [nodeS_go (l := l) (q := exS x k) hlong' (key (by rw [hk0]; decide))]
        rw [if_neg (fun hh => hh hk0)] at h ⊢
        by_cases e1 : l = bytesOf sReg
        · rw [if_pos e1] at h ⊢
          simp only [Prod.mk.injEq] at h
          obtain ⟨rfl, rfl, rfl⟩ := h
          rw [regS_ext x hq]
        · rw [if_neg e1] at h ⊢
          by_cases e2 : l = bytesOf sSym
          · rw [if_pos e2] at h ⊢
            simp only [Prod.mk.injEq] at h
            obtain ⟨rfl, rfl, rfl⟩ := h
            rw [symS_ext x hq]
          · rw [if_neg e2] at h ⊢
            by_cases e3 : l = bytesOf sDir
            · rw [if_pos e3] at h ⊢
              obtain ⟨c, q', m', hE⟩ : ∃ c q' m', entS (nodeS F (deep + 1)) (k.1.length + 1) (k, n + 1) ([], []) = (c, q', m') := ⟨_, _, _, rfl⟩
              rw [hE] at h
              simp only [Prod.mk.injEq] at h
              obtain ⟨rfl, rfl, rfl⟩ := h
              rw [entS_ext x _ (fun y m t q m' hh hq => nodeS_2 hh hq) (fun y m t q m' hh hq => ih (deep + 1) y m t q m' hh hq) (fun y => (nodeS_len F (deep + 1) y).1) _ _ k (n + 1) ([], []) c q' m' (by omega) (by simp) hE hq]
            · rw [if_neg e3] at h ⊢
              simp only [Prod.mk.injEq] at h
              obtain ⟨rfl, rfl, rfl⟩ := h
              unfold flS
              rw [if_pos hk0, if_pos hk0]
      · rw [if_pos hk0] at h
        simp only [Prod.mk.injEq] at h
        obtain ⟨rfl, rfl, rfl⟩ := h
        rw [nodeS_go (s := exS x s) (l := l) (q := exS x k) hlong (key hq), if_pos hk0]
theorem readS_cut {N : Nat} {t : S26} (hG : GT N t) (hc : (chk N t 1 0).1 = 0) (m : Nat) (hm : m < (encB N t).length) : (readS ((encB N t).take m) true).2.2 = 2 := by
  obtain ⟨b, hb⟩ : ∃ q, encB N t = q := ⟨_, rfl⟩
  have he : b = tx sMagic ++ (nodeB N t ++ []) := by rw [← hb, List.append_nil]; unfold encB allB; rw [if_pos hc]
  rw [hb] at hm ⊢
  obtain ⟨y, hy⟩ : ∃ y, wdS (b.take m, 0) [sMagic] = y := ⟨_, rfl⟩
  obtain ⟨u, q, k, hN⟩ : ∃ t q m, nodeS 65 1 (y, 0) = (t, q, m) := ⟨_, _, _, rfl⟩
  have h2 : q.2 = 2 := Classical.byContradiction fun hq => by
    have hx := nodeS_ext (b.drop m) 65 1 y 0 u q k hN hq
    have hwx := wdS_ext (b.drop m) [sMagic] hy (nodeS_2 hN hq)
    rw [← hwx] at hx
    have e0 : exS (b.drop m) (b.take m, 0) = (b, 0) := by unfold exS; simp
    rw [e0] at hx
    have e1 : wdS (b, 0) [sMagic] = (nodeB N t ++ [], 0) := by
      have := wdS_tx (r := nodeB N t ++ []) [sMagic] (by decide)
      rw [txs_cons, txs_nil, List.append_nil] at this
      rw [he]
      exact this
    rw [e1, nodeS_tx N t 1 0 65 [] hG hc rfl] at hx
    simp only [Prod.mk.injEq] at hx
    have h3 := hx.2.1.1
    have h4 : (q.1 ++ b.drop m).length = 0 := by rw [← h3]; rfl
    rw [List.length_append, List.length_drop] at h4
    omega
  unfold readS
  rw [hy, hN]
  unfold readT
  simp only
  rw [if_pos (by rw [h2]; decide)]
  exact h2
theorem readS_more {N : Nat} {t : S26} (hG : GT N t) (hc : (chk N t 1 0).1 = 0) (x : Int) : (readS (encB N t ++ [x]) true).2.2 = 3 := by
  have he : encB N t ++ [x] = tx sMagic ++ (nodeB N t ++ [x]) := by unfold encB allB; rw [if_pos hc, List.append_assoc]
  have e1 : wdS (tx sMagic ++ (nodeB N t ++ [x]), 0) [sMagic] = (nodeB N t ++ [x], 0) := by
    have := wdS_tx (r := nodeB N t ++ [x]) [sMagic] (by decide)
    rw [txs_cons, txs_nil, List.append_nil] at this
    exact this
  rw [he]
  unfold readS
  rw [e1, nodeS_tx N t 1 0 65 [x] hG hc rfl]
  unfold readT
  simp only
  rw [if_neg (fun hh => hh rfl), if_pos ⟨trivial, by simp⟩]
theorem enc_16 {N : Nat} {t : S26} (hG : GT N t) (hc : (chk N t 1 0).1 = 0) : 16 ≤ (encB N t).length := by
  have : encB N t = tx sMagic ++ nodeB N t := by unfold encB allB; rw [if_pos hc]
  rw [this, List.length_append, tx_len]
  have h3 : sMagic.size = 13 := rfl
  omega
end Go.Proofs.Ythhajkmeadapgaa.Tree
