/- nar: a tree's bytes tell the tree. Own work. -/
import Derived.Test.YthhajkmeadapgaaEnE
import Derived.Test.YthhajkmeadapgaaEqA
namespace Go.Proofs.Ythhajkmeadapgaa.Tree
set_option linter.unusedVariables false
set_option linter.unusedSimpArgs false
open Go.RowKit Go.Proofs.Ythhajkmeadapgaa.PL Go.Proofs.Ythhajkmeadapgaa.Mn Go.Proofs.YthhajkmeadapgaaW.PrintWords Go.Proofs.YthhajkmeadapgaaW.PrintLast Go.Proofs.YthhajkmeadapgaaW.PrintMore
theorem num8_inj {n m : Nat} (hn : n < 18446744073709551616) (hm : m < 18446744073709551616) (h : num8 n = num8 m) : n = m := by
  have hd : ∀ i, i < 8 → n / 256 ^ i % 256 = m / 256 ^ i % 256 := by
    intro i hi
    have := congrArg (fun l => l[i]?) h
    simp only [num8, List.getElem?_map, List.getElem?_range hi, Option.map_some, Option.some.injEq] at this
    omega
  have hs : ∀ (x i : Nat), x / 256 ^ i = 256 * (x / 256 ^ (i + 1)) + x / 256 ^ i % 256 := by
    intro x i
    rw [Nat.pow_succ, ← Nat.div_div_eq_div_mul]
    omega
  have h8 : n / 256 ^ 8 = m / 256 ^ 8 := by rw [Nat.div_eq_of_lt (by simpa using hn), Nat.div_eq_of_lt (by simpa using hm)]
  have st : ∀ i, i < 8 → n / 256 ^ (i + 1) = m / 256 ^ (i + 1) → n / 256 ^ i = m / 256 ^ i := fun i hi h => by rw [hs n i, hs m i, h, hd i hi]
  have h0 := st 0 (by omega) (st 1 (by omega) (st 2 (by omega) (st 3 (by omega) (st 4 (by omega) (st 5 (by omega) (st 6 (by omega) (st 7 (by omega) h8)))))))
  simpa using h0
theorem txL_inj {l m x y : List Int} (hl : l.length < 18446744073709551616) (hm : m.length < 18446744073709551616) (h : txL l ++ x = txL m ++ y) : l = m ∧ x = y := by
  unfold txL at h
  simp only [List.append_assoc] at h
  obtain ⟨h1, h2⟩ := List.append_inj h (by rw [num8_len, num8_len])
  have hlen := num8_inj hl hm h1
  obtain ⟨h3, h4⟩ := List.append_inj h2 hlen
  rw [hlen] at h4
  exact ⟨h3, List.append_cancel_left h4⟩
theorem bytesOf_inj {s u : ByteArray} (h : bytesOf s = bytesOf u) : s = u := by
  refine ByteArray.ext (Array.toList_inj.1 ?_)
  unfold bytesOf at h
  have hf : Function.Injective (fun b : UInt8 => (b.toNat : Int)) := fun a b h => UInt8.toNat_inj.1 (by have h' : (a.toNat : Int) = (b.toNat : Int) := h; omega)
  exact (List.map_inj_right (fun {_ _} h => hf h)).1 h
theorem tx_inj {s u : ByteArray} {x y : List Int} (hs : s.size < 18446744073709551616) (hu : u.size < 18446744073709551616) (h : tx s ++ x = tx u ++ y) : s = u ∧ x = y := by
  rw [tx_txL, tx_txL] at h
  obtain ⟨h1, h2⟩ := txL_inj (by rw [bytesOf_length]; exact hs) (by rw [bytesOf_length]; exact hu) h
  exact ⟨bytesOf_inj h1, h2⟩
theorem tx_same {s : ByteArray} {x y : List Int} (h : tx s ++ x = tx s ++ y) : x = y := List.append_cancel_left h
theorem bytesOf_strOfNums {l : List Int} (h : B8 l) : bytesOf (strOfNums l) = l := by
  unfold bytesOf
  rw [strOfNums_data, List.map_map]
  conv => rhs; rw [← List.map_id l]
  refine List.map_congr_left fun x hx => ?_
  obtain ⟨h0, h1⟩ := h x hx
  simp only [Function.comp_apply, id_eq]
  rw [UInt8.toNat_ofNat', Nat.mod_eq_of_lt (by omega)]
  omega
theorem strOfNums_inj {l m : List Int} (hl : B8 l) (hm : B8 m) (h : strOfNums l = strOfNums m) : l = m := by rw [← bytesOf_strOfNums hl, ← bytesOf_strOfNums hm, h]
theorem strOfNums_len (l : List Int) : (strOfNums l).size = l.length := by rw [← data_length, strOfNums_data, List.length_map]
theorem kids_inj (f g : S26 → List Int) : ∀ (ks js : List S26) (ns ms : List ByteArray) (x y : List Int), (∀ a ∈ ks, ∀ b ∈ js, ∀ x y : List Int, f a ++ x = g b ++ y → a = b ∧ x = y) → ns.length = ks.length → ms.length = js.length →
    (∀ s ∈ ns, s.size < 18446744073709551616) → (∀ s ∈ ms, s.size < 18446744073709551616) → kidsB f ns ks ++ (tx sR ++ x) = kidsB g ms js ++ (tx sR ++ y) → ns = ms ∧ ks = js ∧ x = y := by
  intro ks
  induction ks with
  | nil =>
    intro js ns ms x y hf hn hm h1 h2 h
    cases js with
    | nil =>
      obtain rfl := List.length_eq_zero_iff.1 hn
      obtain rfl := List.length_eq_zero_iff.1 hm
      simp only [kidsB, List.nil_append] at h
      exact ⟨rfl, rfl, tx_same h⟩
    | cons j js =>
      simp only [kidsB, entryB, txs_cons, List.append_assoc, List.nil_append] at h
      have := (tx_inj (by decide) (by decide) h).1
      exact absurd (congrArg ByteArray.size this) (by decide)
  | cons k ks ih =>
    intro js ns ms x y hf hn hm h1 h2 h
    cases js with
    | nil =>
      simp only [kidsB, entryB, txs_cons, List.append_assoc, List.nil_append] at h
      have := (tx_inj (by decide) (by decide) h).1
      exact absurd (congrArg ByteArray.size this) (by decide)
    | cons j js =>
      cases ns with
      | nil => simp at hn
      | cons n ns => cases ms with
        | nil => simp at hm
        | cons m ms =>
          simp only [kidsB, entryB, txs_cons, txs_nil, List.append_assoc, List.nil_append, List.headD_cons, List.tail_cons] at h
          have h3 := tx_same (tx_same (tx_same h))
          obtain ⟨rfl, h4⟩ := tx_inj (h1 _ List.mem_cons_self) (h2 _ List.mem_cons_self) h3
          have h5 := tx_same h4
          obtain ⟨rfl, h6⟩ := hf k List.mem_cons_self j List.mem_cons_self _ _ h5
          have h7 := tx_same h6
          obtain ⟨rfl, rfl, rfl⟩ := ih js ns ms x y (fun a ha b hb => hf a (List.mem_cons_of_mem _ ha) b (List.mem_cons_of_mem _ hb)) (by simpa using hn) (by simpa using hm) (fun s hs => h1 s (List.mem_cons_of_mem _ hs)) (fun s hs => h2 s (List.mem_cons_of_mem _ hs)) h7
          exact ⟨rfl, rfl, rfl⟩
/-- a node's own fields, as check has let them by -/
theorem formE_ok {t : S26} (h : formE t = 0) : (t.f0 = 1 ∧ t.f3 = [] ∧ t.f4 = []) ∨ (t.f0 = 3 ∧ t.f1 = false ∧ t.f3 = [] ∧ t.f4 = []) ∨ (t.f0 = 2 ∧ t.f1 = false ∧ t.f2 = [] ∧ t.f3.length = t.f4.length) := by
  unfold formE at h
  by_cases k1 : t.f0 = 1
  · rw [if_pos k1] at h
    refine .inl ⟨k1, ?_⟩
    split at h
    · cases h
    · exact ⟨List.length_eq_zero_iff.1 (by omega), List.length_eq_zero_iff.1 (by omega)⟩
  · rw [if_neg k1] at h
    by_cases k3 : t.f0 = 3
    · rw [if_pos k3] at h
      refine .inr (.inl ⟨k3, ?_⟩)
      split at h
      · cases h
      · rename_i q
        exact ⟨by cases hq : t.f1 with | false => rfl | true => exact absurd (.inl hq) q, List.length_eq_zero_iff.1 (by omega), List.length_eq_zero_iff.1 (by omega)⟩
    · rw [if_neg k3] at h
      by_cases k2 : t.f0 = 2
      · rw [if_pos k2] at h
        refine .inr (.inr ⟨k2, ?_⟩)
        split at h
        · cases h
        · rename_i q
          exact ⟨by cases hq : t.f1 with | false => rfl | true => exact absurd (.inl hq) q, List.length_eq_zero_iff.1 (by omega), by omega⟩
      · rw [if_neg k2] at h; cases h
theorem sz_lt {s : ByteArray} (h : s.size ≤ 140737488351232) : s.size < 18446744073709551616 := by omega
theorem node_inj : ∀ (N : Nat) (t : S26) (M : Nat) (u : S26) (x y : List Int), GT N t → Okt N t → GT M u → Okt M u → nodeB N t ++ x = nodeB M u ++ y → t = u ∧ x = y := by
  intro N
  induction N with
  | zero => intro t M u x y h; exact h.elim
  | succ N ih =>
    intro t M u x y hG hO hG2 hO2 h
    cases M with
    | zero => exact hG2.elim
    | succ M =>
      obtain ⟨-, ⟨-, a1, a2⟩, ⟨-, a3, a3'⟩, -, a4, a5⟩ := hG
      obtain ⟨-, ⟨-, b1, b2⟩, ⟨-, b3, b3'⟩, -, b4, b5⟩ := hG2
      obtain ⟨o1, o2, o3⟩ := hO
      obtain ⟨p1, p2, p3⟩ := hO2
      have ds : (strOfNums t.f2).size < 18446744073709551616 := by rw [strOfNums_len]; omega
      have du : (strOfNums u.f2).size < 18446744073709551616 := by rw [strOfNums_len]; omega
      have inj := fun h => strOfNums_inj (B8.of_wf a2) (B8.of_wf b2) h
      simp only [nodeB, txs_cons, txs_nil, List.append_assoc, List.nil_append] at h
      have h := tx_same (tx_same h)
      rcases formE_ok o1 with ⟨k1, q1, q2⟩ | ⟨k1, q0, q1, q2⟩ | ⟨k1, q0, q1, q2⟩
      · rw [if_pos k1] at h
        rcases formE_ok p1 with ⟨j1, r1, r2⟩ | ⟨j1, r0, r1, r2⟩ | ⟨j1, r0, r1, r2⟩
        · rw [if_pos j1] at h
          simp only [List.append_assoc] at h
          have h := tx_same h
          by_cases e1 : t.f1 = true
          · by_cases e2 : u.f1 = true
            · rw [if_pos e1, if_pos e2] at h
              simp only [List.append_assoc] at h
              have h := tx_same (tx_same (tx_same h))
              obtain ⟨g1, g2⟩ := tx_inj ds du h
              have g3 := inj g1
              refine ⟨?_, tx_same g2⟩
              cases t; cases u; simp_all
            · rw [if_pos e1, if_neg e2] at h
              simp only [List.append_assoc, List.nil_append] at h
              have := (tx_inj (by decide) (by decide) h).1
              exact absurd (congrArg ByteArray.size this) (by decide)
          · by_cases e2 : u.f1 = true
            · rw [if_neg e1, if_pos e2] at h
              simp only [List.append_assoc, List.nil_append] at h
              have := (tx_inj (by decide) (by decide) h).1
              exact absurd (congrArg ByteArray.size this) (by decide)
            · rw [if_neg e1, if_neg e2] at h
              simp only [List.nil_append] at h
              have h := tx_same h
              obtain ⟨g1, g2⟩ := tx_inj ds du h
              have g3 := inj g1
              refine ⟨?_, tx_same g2⟩
              cases t; cases u; simp_all
        · rw [if_neg (show ¬ u.f0 = 1 from by omega), if_pos j1] at h
          simp only [List.append_assoc] at h
          have := congrArg (fun s => s.data) (tx_inj (by decide) (by decide) h).1
          exact absurd this (by decide)
        · rw [if_neg (show ¬ u.f0 = 1 from by omega), if_neg (show ¬ u.f0 = 3 from by omega)] at h
          simp only [List.append_assoc] at h
          have := congrArg ByteArray.size (tx_inj (by decide) (by decide) h).1
          exact absurd this (by decide)
      · rw [if_neg (show ¬ t.f0 = 1 from by omega), if_pos k1] at h
        rcases formE_ok p1 with ⟨j1, r1, r2⟩ | ⟨j1, r0, r1, r2⟩ | ⟨j1, r0, r1, r2⟩
        · rw [if_pos j1] at h
          simp only [List.append_assoc] at h
          have := congrArg (fun s => s.data) (tx_inj (by decide) (by decide) h).1
          exact absurd this (by decide)
        · rw [if_neg (show ¬ u.f0 = 1 from by omega), if_pos j1] at h
          simp only [List.append_assoc] at h
          have h := tx_same (tx_same h)
          obtain ⟨g1, g2⟩ := tx_inj ds du h
          have g3 := inj g1
          refine ⟨?_, tx_same g2⟩
          cases t; cases u; simp_all
        · rw [if_neg (show ¬ u.f0 = 1 from by omega), if_neg (show ¬ u.f0 = 3 from by omega)] at h
          simp only [List.append_assoc] at h
          have := congrArg ByteArray.size (tx_inj (by decide) (by decide) h).1
          exact absurd this (by decide)
      · rw [if_neg (show ¬ t.f0 = 1 from by omega), if_neg (show ¬ t.f0 = 3 from by omega)] at h
        rcases formE_ok p1 with ⟨j1, r1, r2⟩ | ⟨j1, r0, r1, r2⟩ | ⟨j1, r0, r1, r2⟩
        · rw [if_pos j1] at h
          simp only [List.append_assoc] at h
          have := congrArg ByteArray.size (tx_inj (by decide) (by decide) h).1
          exact absurd this (by decide)
        · rw [if_neg (show ¬ u.f0 = 1 from by omega), if_pos j1] at h
          simp only [List.append_assoc] at h
          have := congrArg ByteArray.size (tx_inj (by decide) (by decide) h).1
          exact absurd this (by decide)
        · rw [if_neg (show ¬ u.f0 = 1 from by omega), if_neg (show ¬ u.f0 = 3 from by omega)] at h
          simp only [List.append_assoc] at h
          have h := tx_same h
          obtain ⟨g1, g2, g3⟩ := kids_inj (nodeB N) (nodeB M) t.f4 u.f4 t.f3 u.f3 x y (fun a ha b hb x y h => ih a M b x y (a5 a ha) (o3 a ha) (b5 b hb) (p3 b hb) h) q2 r2 (fun s hs => sz_lt (a3' s hs)) (fun s hs => sz_lt (b3' s hs)) h
          refine ⟨?_, g3⟩
          cases t; cases u; simp_all
theorem kidsB_congr {f g : S26 → List Int} : ∀ (ks : List S26) (ns : List ByteArray), (∀ k ∈ ks, f k = g k) → kidsB f ns ks = kidsB g ns ks := by
  intro ks
  induction ks with
  | nil => intro ns _; simp [kidsB]
  | cons k ks ih =>
    intro ns h
    simp only [kidsB]
    rw [h k List.mem_cons_self, ih _ (fun a ha => h a (List.mem_cons_of_mem _ ha))]
theorem nodeB_fuel : ∀ (N M : Nat) (t : S26), GT N t → GT M t → nodeB N t = nodeB M t := by
  intro N
  induction N with
  | zero => intro M t h; exact h.elim
  | succ N ih =>
    intro M t h h2
    cases M with
    | zero => exact h2.elim
    | succ M =>
      simp only [nodeB]
      rw [kidsB_congr (g := nodeB M) t.f4 t.f3 (fun k hk => ih M k (h.2.2.2.2.2 k hk) (h2.2.2.2.2.2 k hk))]
theorem all_inj {N M : Nat} {t u : S26} (hG : GT N t) (hO : Okt N t) (hG2 : GT M u) (hO2 : Okt M u) : allB N t = allB M u ↔ t = u := by
  constructor
  · intro h
    unfold allB at h
    have h2 := tx_same h
    exact (node_inj N t M u [] [] hG hO hG2 hO2 (by simpa using h2)).1
  · rintro rfl
    unfold allB
    rw [nodeB_fuel N M t hG hG2]
/-! ### how long a tree's bytes are -/
theorem pad_lt (n : Nat) : pad n < 8 := by unfold pad; omega
theorem tx_le (s : ByteArray) : (tx s).length ≤ 15 + s.size := by rw [tx_len]; have := pad_lt s.size; omega
theorem kids_le (f : S26 → List Int) (w : S26 → Nat) (c : Nat) : ∀ (ks : List S26) (ns : List ByteArray), (∀ k ∈ ks, (f k).length ≤ c * w k) → (kidsB f ns ks).length ≤ c * (ks.map w).sum + 106 * ks.length + 10 * szs ns + 9 * ns.length := by
  intro ks
  induction ks with
  | nil => intro ns _; simp [kidsB]
  | cons k ks ih =>
    intro ns h
    have h1 := h k List.mem_cons_self
    have h2 := ih ns.tail (fun a ha => h a (List.mem_cons_of_mem _ ha))
    simp only [kidsB, entryB, txs_cons, txs_nil, List.length_append, List.length_nil, List.map_cons, List.sum_cons, List.length_cons, Nat.mul_add] at h2 ⊢
    have e1 : (tx sEntry).length = 16 := by rw [tx_len]; rfl
    have e2 : (tx sL).length = 16 := by rw [tx_len]; rfl
    have e3 : (tx sName).length = 16 := by rw [tx_len]; rfl
    have e4 : (tx sNode).length = 16 := by rw [tx_len]; rfl
    have e5 : (tx sR).length = 16 := by rw [tx_len]; rfl
    cases ns with
    | nil =>
      have e6 : (tx ByteArray.empty).length = 8 := by rw [tx_len]; rfl
      simp only [List.headD_nil, List.tail_nil, szs, List.map_nil, List.sum_nil, List.length_nil] at h2 ⊢
      omega
    | cons n ns =>
      have e6 := tx_le n
      simp only [List.headD_cons, List.tail_cons, szs, List.map_cons, List.sum_cons, List.length_cons] at h2 ⊢
      omega
theorem sum_le {ks : List S26} {w : S26 → Nat} (h : ∀ k ∈ ks, 1 ≤ w k) : ks.length ≤ (ks.map w).sum := by
  induction ks with
  | nil => simp
  | cons k ks ih =>
    have h1 := h k List.mem_cons_self
    have h2 := ih (fun a ha => h a (List.mem_cons_of_mem _ ha))
    simp only [List.length_cons, List.map_cons, List.sum_cons]
    omega
theorem node_le : ∀ (N : Nat) (t : S26), GT N t → (nodeB N t).length + 106 ≤ 300 * Wt N t := by
  intro N
  induction N with
  | zero => intro t h; exact h.elim
  | succ N ih =>
    intro t h
    obtain ⟨-, ⟨-, a1, a2⟩, ⟨-, a3, a3'⟩, -, a4, a5⟩ := h
    have e1 : (tx sL).length = 16 := by rw [tx_len]; rfl
    have e2 : (tx sType).length = 16 := by rw [tx_len]; rfl
    have e3 : (tx sReg).length = 16 := by rw [tx_len]; rfl
    have e4 : (tx sExec).length = 24 := by rw [tx_len]; rfl
    have e5 : (tx sEmpty).length = 8 := by rw [tx_len]; rfl
    have e6 : (tx sCont).length = 16 := by rw [tx_len]; rfl
    have e7 : (tx sSym).length = 16 := by rw [tx_len]; rfl
    have e8 : (tx sTarget).length = 16 := by rw [tx_len]; rfl
    have e9 : (tx sDir).length = 24 := by rw [tx_len]; rfl
    have e10 : (tx sR).length = 16 := by rw [tx_len]; rfl
    have hd := tx_le (strOfNums t.f2)
    rw [strOfNums_len] at hd
    have hw : ∀ k ∈ t.f4, 1 ≤ Wt N k := fun k hk => by have := ih k (a5 k hk); omega
    have hk := kids_le (nodeB N) (fun k => 300 * Wt N k - 106) 1 t.f4 t.f3 (fun k hk => by have := ih k (a5 k hk); omega)
    have hs : (t.f4.map (fun k => 300 * Wt N k - 106)).sum + 106 * t.f4.length = 300 * (t.f4.map (Wt N)).sum := by
      have : ∀ l : List S26, (∀ k ∈ l, 1 ≤ Wt N k) → (l.map (fun k => 300 * Wt N k - 106)).sum + 106 * l.length = 300 * (l.map (Wt N)).sum := by
        intro l
        induction l with
        | nil => intro _; simp
        | cons k l ihl =>
          intro h
          have h1 := h k List.mem_cons_self
          have h2 := ihl (fun a ha => h a (List.mem_cons_of_mem _ ha))
          simp only [List.map_cons, List.sum_cons, List.length_cons]
          omega
      exact this _ hw
    simp only [Wt]
    simp only [nodeB, txs_cons, txs_nil, List.length_append, List.length_nil]
    split
    · split
      · simp only [List.length_append, List.length_nil]; omega
      · simp only [List.length_append, List.length_nil]; omega
    · split
      · simp only [List.length_append, List.length_nil]; omega
      · simp only [List.length_append, List.length_nil]; omega
theorem all_le {N : Nat} {t : S26} (h : GT N t) (hw : Wt N t ≤ 3000) : (allB N t).length ≤ 1000000 := by
  have h1 := node_le N t h
  have h2 := tx_le sMagic
  have h3 : sMagic.size = 13 := rfl
  unfold allB
  rw [List.length_append]
  omega
end Go.Proofs.Ythhajkmeadapgaa.Tree
