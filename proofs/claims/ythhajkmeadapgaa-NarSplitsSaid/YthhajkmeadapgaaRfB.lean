/- nar's reference: must; node as a plain function. Own work. -/
import Derived.Test.YthhajkmeadapgaaRfA
namespace Go.Proofs.Ythhajkmeadapgaa.Tree
set_option linter.unusedVariables false
set_option linter.unusedSimpArgs false
open Go.RowKit Go.Proofs.Ythhajkmeadapgaa.PL Go.Proofs.Ythhajkmeadapgaa.Mn Go.Proofs.YthhajkmeadapgaaW.PrintWords Go.Proofs.YthhajkmeadapgaaW.PrintLast Go.Proofs.YthhajkmeadapgaaW.PrintMore
set_option maxRecDepth 20000 in
set_option maxHeartbeats 2000000 in
theorem must_any (w0 w : World) (g : Nat) (s : RS) (n : Nat) (x : ByteArray) (hR : RR w0 w g s n) (hl : s.1.length ≤ 1099511627776) :
    Calls Try.prog 49 #[.pointer (some ⟨g, 0, none⟩), .string x] w fun e w' => e = .returned (.tuple #[]) ∧ RR w0 w' g (wd1 s x) n ∧ KeepBut w w' g none := by
  have HT := Aside0.mk (rtext_any w0 w g s n hR hl)
  have HW : Aside0 (wd1 s x = if (txS s).2.2 = 0 ∧ (txS s).1 ≠ bytesOf x then ((txS s).2.1, 3) else (txS s).2) := ⟨rfl⟩
  clear hR hl
  unfold TxR at HT
  obtain ⟨l, hl⟩ : ∃ q, (txS s).1 = q := ⟨_, rfl⟩
  obtain ⟨s2, hs2⟩ : ∃ q, (txS s).2 = q := ⟨_, rfl⟩
  rw [hl, hs2] at HT HW
  clear hl hs2
  go_enter Try.func49, Try.ntmps49
  go_wp2_with fail
  refine HT.out.mono ?_
  rintro e_ w2 ⟨rfl, hr2, hk2, h8⟩
  have H2 := Aside0.mk (And.intro hr2 hk2)
  obtain ⟨A, c, hblk, -, -⟩ := hr2.blk
  obtain ⟨⟨p0, p1, p2⟩, q0, q1, q2⟩ := cells3 hblk
  have hsi := str_is h8 x
  obtain ⟨y, hy⟩ : ∃ q, strOfNums l = q := ⟨_, rfl⟩
  rw [hy] at hsi ⊢
  clear hblk hr2 hk2 h8 hy HT p0 p2 q0 q2
  by_cases h0 : s2.2 = 0
  · have e0 : (s2.2 == 0) = true := by simpa using h0
    by_cases hxy : l = bytesOf x
    · have HW2 : Aside0 (wd1 s x = s2) := ⟨by rw [HW.out, if_neg (fun h => h.2 hxy)]⟩
      have e1 : (y.toList == x.toList) = true := by rw [hsi.2 hxy]; simp
      have e2 : (y.toList != x.toList) = false := by rw [hsi.2 hxy]; simp
      clear hxy hsi HW
      go_wp2_with fail
      exact bodyPost_end (v := .tuple #[]) (by simp [results, Try.results49, go_sem]) rfl ⟨rfl, by rw [HW2.out]; exact H2.out.1, H2.out.2⟩
    · have HW2 : Aside0 (wd1 s x = (s2.1, 3)) := ⟨by rw [HW.out, if_pos ⟨h0, hxy⟩]⟩
      have hxy2 : ¬ y.toList = x.toList := fun h => hxy (hsi.1 h)
      have e1 : (y.toList == x.toList) = false := by simpa using hxy2
      have e2 : (y.toList != x.toList) = true := by simpa using hxy2
      clear hxy hsi HW hxy2
      go_wp2_with fail
      exact bodyPost_end (v := .tuple #[]) (by simp [results, Try.results49, go_sem]) rfl ⟨rfl, by rw [HW2.out]; exact H2.out.1.err 3, H2.out.2.trans (KeepBut.set_ (KeepBut.refl _ _ _) 1 _) (.inl rfl)⟩
  · have e0 : (s2.2 == 0) = false := by simpa using h0
    have HW2 : Aside0 (wd1 s x = s2) := ⟨by rw [HW.out, if_neg (fun h => h0 h.1)]⟩
    clear hsi HW
    go_wp2_with fail
    exact bodyPost_end (v := .tuple #[]) (by simp [results, Try.results49, go_sem]) rfl ⟨rfl, by rw [HW2.out]; exact H2.out.1, H2.out.2⟩
/-- the reference's node: no count once an error stands -/
def nodeR : Nat → Nat → RS × Nat → S26 × RS × Nat
  | 0, _, s => (z0, s.1, s.2)
  | F + 1, deep, s =>
    if s.1.2 ≠ 0 then (z0, s.1, s.2)
    else if 65536 < s.2 + 1 ∨ 64 < deep then (z0, (s.1.1, 5), s.2 + 1)
    else
    let k := txS (wdS s.1 [sL, sType])
    if k.2.2 ≠ 0 then (z0, k.2, s.2 + 1)
    else if k.1 = bytesOf sReg then (⟨1, (regS k.2).1, (regS k.2).2.1, [], []⟩, (regS k.2).2.2, s.2 + 1)
    else if k.1 = bytesOf sSym then (⟨3, false, (symS k.2).1, [], []⟩, (symS k.2).2, s.2 + 1)
    else if k.1 = bytesOf sDir then
      let r := entS (nodeR F (deep + 1)) (k.2.1.length + 1) (k.2, s.2 + 1) ([], [])
      (⟨2, false, [], r.1.1, r.1.2⟩, r.2.1, r.2.2)
    else (z0, (k.2.1, 3), s.2 + 1)
theorem nodeR_bad {F deep n : Nat} {s : RS} (h : s.2 ≠ 0) : nodeR (F + 1) deep (s, n) = (z0, s, n) := by rw [nodeR, if_pos h]
theorem nodeR_long {F deep n : Nat} {s : RS} (h0 : s.2 = 0) (h : 65536 < n + 1 ∨ 64 < deep) : nodeR (F + 1) deep (s, n) = (z0, (s.1, 5), n + 1) := by rw [nodeR, if_neg (fun hh => hh h0), if_pos h]
theorem nodeR_go {F deep n : Nat} {s q : RS} {l : List Int} (h0 : s.2 = 0) (h : ¬ (65536 < n + 1 ∨ 64 < deep)) (hk : txS (wdS s [sL, sType]) = (l, q)) :
    nodeR (F + 1) deep (s, n) = if q.2 ≠ 0 then (z0, q, n + 1) else if l = bytesOf sReg then (⟨1, (regS q).1, (regS q).2.1, [], []⟩, (regS q).2.2, n + 1) else if l = bytesOf sSym then (⟨3, false, (symS q).1, [], []⟩, (symS q).2, n + 1)
      else if l = bytesOf sDir then (⟨2, false, [], (entS (nodeR F (deep + 1)) (q.1.length + 1) (q, n + 1) ([], [])).1.1, (entS (nodeR F (deep + 1)) (q.1.length + 1) (q, n + 1) ([], [])).1.2⟩, (entS (nodeR F (deep + 1)) (q.1.length + 1) (q, n + 1) ([], [])).2.1, (entS (nodeR F (deep + 1)) (q.1.length + 1) (q, n + 1) ([], [])).2.2)
      else (z0, (q.1, 3), n + 1) := by
  rw [nodeR, if_neg (fun hh => hh h0), if_neg h]
  simp only
  rw [hk]
/-- same tree, same state; same count while no error stands -/
def AsR (a b : S26 × RS × Nat) : Prop := a.1 = b.1 ∧ a.2.1 = b.2.1 ∧ (b.2.1.2 = 0 → a.2.2 = b.2.2)
theorem entS_as (f h : RS × Nat → S26 × RS × Nat) (hf : ∀ s n m, (s.2 = 0 → n = m) → AsR (f (s, n)) (h (s, m))) : ∀ (L : Nat) (s : RS) (n m : Nat) (a : List ByteArray × List S26), (s.2 = 0 → n = m) →
    (entS f L (s, n) a).1 = (entS h L (s, m) a).1 ∧ (entS f L (s, n) a).2.1 = (entS h L (s, m) a).2.1 ∧ ((entS h L (s, m) a).2.1.2 = 0 → (entS f L (s, n) a).2.2 = (entS h L (s, m) a).2.2) := by
  intro L
  induction L with
  | zero => intro s n m a hn; exact ⟨rfl, rfl, hn⟩
  | succ L ih =>
    intro s n m a hn
    by_cases h0 : s.2 = 0
    · obtain ⟨l, r, hl0⟩ : ∃ l r, txS s = (l, r) := ⟨_, _, rfl⟩
      by_cases hr : r.2 = 0
      · by_cases h1 : l = bytesOf sR
        · subst h1
          rw [entS_end h0 hl0, entS_end h0 hl0]
          exact ⟨rfl, rfl, fun _ => hn h0⟩
        · by_cases h2 : l = bytesOf sEntry
          · subst h2
            obtain ⟨nm, q2, hm⟩ : ∃ nm q2, txS (wdS r [sL, sName]) = (nm, q2) := ⟨_, _, rfl⟩
            obtain ⟨z, hz⟩ : ∃ z, wdS q2 [sNode] = z := ⟨_, rfl⟩
            obtain ⟨t, q3, m', hk⟩ : ∃ t q3 m', f (z, n) = (t, q3, m') := ⟨_, _, _, rfl⟩
            obtain ⟨t2, q32, m2, hk2⟩ : ∃ t q3 m', h (z, m) = (t, q3, m') := ⟨_, _, _, rfl⟩
            obtain ⟨g1, g2, g3⟩ := hf z n m (fun _ => hn h0)
            rw [hk, hk2] at g1 g2 g3
            simp only at g1 g2 g3
            subst g1 g2
            rw [entS_kid (l := nm) (q2 := q2) (t := t) (q3 := q3) (m := m') h0 hl0 hr hm (by rw [hz]; exact hk), entS_kid (l := nm) (q2 := q2) (t := t) (q3 := q3) (m := m2) h0 hl0 hr hm (by rw [hz]; exact hk2)]
            exact ih _ m' m2 _ (fun hv => g3 (wdS_zero rfl hv))
          · rw [entS_odd h0 hl0 hr h1 h2, entS_odd h0 hl0 hr h1 h2]
            exact ⟨rfl, rfl, fun _ => hn h0⟩
      · rw [entS_err h0 hl0 hr, entS_err h0 hl0 hr]
        exact ⟨rfl, rfl, fun _ => hn h0⟩
    · rw [entS_bad h0, entS_bad h0]
      exact ⟨rfl, rfl, hn⟩
theorem nodeR_as : ∀ (F deep : Nat) (s : RS) (n m : Nat), (s.2 = 0 → n = m) → AsR (nodeR F deep (s, n)) (nodeS F deep (s, m)) := by
  intro F
  induction F with
  | zero => intro deep s n m hn; rw [nodeR, nodeS]; exact ⟨rfl, rfl, hn⟩
  | succ F ih =>
    intro deep s n m hn
    by_cases h0 : s.2 = 0
    · obtain rfl := hn h0
      by_cases hlong : 65536 < n + 1 ∨ 64 < deep
      · rw [nodeR_long h0 hlong, nodeS_long ⟨h0, hlong⟩]
        exact ⟨rfl, rfl, fun _ => rfl⟩
      · obtain ⟨l, k, hk⟩ : ∃ l k, txS (wdS s [sL, sType]) = (l, k) := ⟨_, _, rfl⟩
        rw [nodeR_go h0 hlong hk, nodeS_go (fun h => hlong h.2) hk]
        by_cases hk0 : k.2 = 0
        · have hk1 : ¬ k.2 ≠ 0 := fun h => h hk0
          rw [if_neg hk1, if_neg hk1]
          by_cases e1 : l = bytesOf sReg
          · rw [if_pos e1, if_pos e1]; exact ⟨rfl, rfl, fun _ => rfl⟩
          · rw [if_neg e1, if_neg e1]
            by_cases e2 : l = bytesOf sSym
            · rw [if_pos e2, if_pos e2]; exact ⟨rfl, rfl, fun _ => rfl⟩
            · rw [if_neg e2, if_neg e2]
              by_cases e3 : l = bytesOf sDir
              · rw [if_pos e3, if_pos e3]
                obtain ⟨g1, g2, g3⟩ := entS_as (nodeR F (deep + 1)) (nodeS F (deep + 1)) (fun s n m h => ih (deep + 1) s n m h) (k.1.length + 1) k (n + 1) (n + 1) ([], []) (fun _ => rfl)
                exact ⟨by rw [g1], g2, g3⟩
              · rw [if_neg e3, if_neg e3]
                unfold flS
                rw [if_pos hk0]
                exact ⟨rfl, rfl, fun _ => rfl⟩
        · rw [if_pos hk0, if_pos hk0]; exact ⟨rfl, rfl, fun _ => rfl⟩
    · rw [nodeR_bad h0, nodeS_bad h0]
      exact ⟨rfl, rfl, fun h => absurd h h0⟩
/-- how far node can count -/
theorem nodeR_len : ∀ (F deep : Nat) (s : RS × Nat), (nodeR F deep s).2.1.1.length ≤ s.1.1.length ∧ (nodeR F deep s).2.2 + (nodeR F deep s).2.1.1.length ≤ s.2 + 1 + s.1.1.length := by
  intro F
  induction F with
  | zero => intro deep s; rw [nodeR]; simp only; omega
  | succ F ih =>
    intro deep s
    obtain ⟨s, n⟩ := s
    by_cases h0 : s.2 = 0
    · by_cases hlong : 65536 < n + 1 ∨ 64 < deep
      · rw [nodeR_long h0 hlong]; simp only; omega
      · obtain ⟨l, k, hk⟩ : ∃ l k, txS (wdS s [sL, sType]) = (l, k) := ⟨_, _, rfl⟩
        have h1 := wdS_len [sL, sType] s
        have h2 := txS_len (wdS s [sL, sType])
        rw [hk] at h2
        simp only at h2
        rw [nodeR_go h0 hlong hk]
        split
        · simp only; omega
        · split
          · have := regS_len k; simp only; omega
          · split
            · have := symS_len k; simp only; omega
            · split
              · have := entS_len (nodeR F (deep + 1)) (ih (deep + 1)) (k.1.length + 1) (k, n + 1) ([], [])
                simp only at this ⊢
                omega
              · simp only; omega
    · rw [nodeR_bad h0]; simp only; omega
end Go.Proofs.Ythhajkmeadapgaa.Tree
