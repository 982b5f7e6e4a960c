/- tree: parts, a place's names. Own work. -/
import Derived.Test.YtfnofjcdaghniaaDoorOwJ
import Derived.Test.YtfnofjcdaghniaaDoorShel2
import Derived.Shelf.Spec.SlicesInsertGrow
import Derived.Test.YtfnofjcdaghniaaDoorMt13
namespace Go.Proofs.YtfnofjcdaghniaaDoor.Tree
set_option linter.unusedVariables false
set_option linter.unusedSimpArgs false
open Go.RowKit Go.Proofs.YtfnofjcdaghniaaDoor.PL Go.Proofs.YtfnofjcdaghniaaDoor.Mt Go.Proofs.YtfnofjcdaghniaaDoorW.PrintWords Go.Proofs.YtfnofjcdaghniaaDoorW.PrintLast Go.Proofs.YtfnofjcdaghniaaDoorW.PrintMore
theorem notEntry_any (s : ByteArray) (w : World) : Calls Tryd.prog 48 #[.string s] w fun e w' => e = .returned (.bool (!isE s)) ∧ w' = w := by
  have H := Aside0.mk (isEntry_any s w)
  go_enter Tryd.func48, Tryd.ntmps48
  go_wp2_with fail
  refine H.out.mono ?_
  rintro e_ w1 ⟨rfl, rfl⟩
  go_wp2_with fail
  go_ret
  exact ⟨rfl, rfl⟩
set_option maxRecDepth 20000 in
set_option maxHeartbeats 1000000 in
theorem indexFunc_any (v : Value) (l : List ByteArray) (A : Option Addr) (c : Nat) (w : World) (hC : Kd.string.C w A l.length l) (hc : l.length ≤ c) (hv : v = .func (.func 48) #[] #[]) (hl : l.length ≤ 1099511627776) :
    Calls Tryd.prog 64 #[.slice A l.length c, v] w fun e w' => ∃ i : Int, e = .returned (.int .i64 i) ∧ (0 ≤ i ↔ l.all isE = false) ∧ w' = w := by
  subst hv
  have HC := Aside0.mk hC
  clear hC
  go_enter Tryd.func64, Tryd.ntmps64
  go_wp2_with fail
  go_loopw [8] (fun v wr => ∃ k : Nat, v = .int .i64 (k : Int) ∧ k ≤ l.length ∧ wr = w ∧ Aside0 (∀ s ∈ l.take k, isE s = true)) (fun v _ => l.length - (intOf v).toNat)
  case atStart => exact ⟨0, rfl, Nat.zero_le _, rfl, ⟨fun s h => by simp at h⟩⟩
  case round =>
    obtain ⟨k, rfl, hk, rfl, HK⟩ := hrel
    by_cases hlt : k < l.length
    · obtain ⟨ad, hA, hcs⟩ := Kd.at_string HC.out (k : Int) (by omega) (by omega)
      obtain ⟨s, hs⟩ : ∃ x, rdOf ByteArray.empty l (k : Int) = x := ⟨_, rfl⟩
      have hse : l[k] = s := by rw [← hs, rdOf_nat, List.getD_eq_getElem?_getD, List.getElem?_eq_getElem hlt]; rfl
      have HSE := Aside0.mk hse
      rw [hs, Int.toNat_natCast] at hcs
      subst hA
      clear hs hse
      go_wp2_with fail
      refine (notEntry_any s wr).mono ?_
      rintro e_ w2 ⟨rfl, rfl⟩
      cases he : isE s with
      | true =>
        go_wp2_with fail
        refine ⟨⟨k + 1, by go_num, by omega, trivial, ⟨fun t ht => ?_⟩⟩, by simp [intOf]; omega⟩
        rw [List.take_succ_eq_append_getElem hlt, List.mem_append, List.mem_singleton, HSE.out] at ht
        rcases ht with h | h
        · exact HK.out t h
        · rw [h]; exact he
      | false =>
        have hall : l.all isE = false := by
          rw [List.all_eq_false]
          exact ⟨l[k], List.getElem_mem hlt, by rw [HSE.out, he]; simp⟩
        have HA := Aside0.mk hall
        clear hall
        go_wp2_with fail
        exact bodyPost_ret (v := .int .i64 k) (by simp [results, Tryd.results64, go_sem]) rfl ⟨(k : Int), rfl, ⟨fun _ => HA.out, fun _ => Int.natCast_nonneg _⟩, rfl⟩
    · have hkk : k = l.length := by omega
      subst hkk
      have hall : l.all isE = true := by
        rw [List.all_eq_true]
        have := HK.out
        rwa [List.take_length] at this
      have HA := Aside0.mk hall
      clear hall
      go_wp2_with fail
      exact bodyPost_ret (v := .int .i64 (-1)) (by simp [results, Tryd.results64, go_sem]) rfl ⟨-1, rfl, ⟨fun h => absurd h (by decide), fun h => by rw [HA.out] at h; cases h⟩, rfl⟩
set_option maxHeartbeats 1000000 in
theorem containsFunc_any (l : List ByteArray) (A : Option Addr) (c : Nat) (w : World) (hC : Kd.string.C w A l.length l) (hc : l.length ≤ c) (hl : l.length ≤ 1099511627776) :
    Calls Tryd.prog 47 #[.slice A l.length c, .func (.func 48) #[] #[]] w fun e w' => e = .returned (.bool (!l.all isE)) ∧ w' = w := by
  have H := Aside0.mk (indexFunc_any _ l A c w hC hc rfl hl)
  clear hC
  go_enter Tryd.func47, Tryd.ntmps47
  go_wp2_with fail
  refine H.out.mono ?_
  rintro e_ w1 ⟨i, rfl, hi, rfl⟩
  cases ha : l.all isE with
  | true =>
    have h0 : ¬ 0 ≤ i := fun h => by have := hi.1 h; rw [ha] at this; cases this
    have hd : decide (i ≥ 0) = false := decide_eq_false h0
    clear hi H
    go_wp2_with fail
    exact bodyPost_ret (v := .bool false) (by simp [results, Tryd.results47, go_sem]) rfl ⟨by rw [ha]; rfl, rfl⟩
  | false =>
    have h0 : 0 ≤ i := hi.2 ha
    have hd : decide (i ≥ 0) = true := decide_eq_true h0
    clear hi H
    go_wp2_with fail
    exact bodyPost_ret (v := .bool true) (by simp [results, Tryd.results47, go_sem]) rfl ⟨by rw [ha]; rfl, rfl⟩
/-- a row of texts, laid -/
theorem row_C (w : World) (l : List ByteArray) (t : TypeId) (hl : l.length ≤ 9223372036854775807) : Kd.string.C (w.alloc (.cells (l.map Value.string).toArray t)) (some ⟨w.heap.size, 0, none⟩) l.length l := by
  refine ⟨rfl, hl, fun _ => ⟨_, rfl, fun j p hp => ?_⟩⟩
  refine ⟨[.string p], rfl, rfl, fun i u hi => ?_⟩
  have hi0 : i = 0 := by have := (List.getElem?_eq_some_iff.1 hi).1; simp at this; exact this
  subst hi0
  simp only [List.getElem?_cons_zero, Option.some.injEq] at hi
  subst hi
  have hc := blk_cell (heap_alloc_new w (.cells (l.map Value.string).toArray t)) j
  have e : (⟨w.heap.size, 0, none⟩ : Addr).add (j * 1 + 0) = ⟨w.heap.size, j, none⟩ := by simp [Addr.add]; exact fun h => h.symm
  show (w.alloc _).cell? ((⟨w.heap.size, 0, none⟩ : Addr).add (j * 1 + 0)) = _
  rw [e, hc]
  simp [hp]
abbrev slash : ByteArray := ⟨#[47]⟩
/-- a place's names -/
def partsS (s : ByteArray) : List ByteArray := if s.size = 0 then [] else Lib.splitB slash 0 (Lib.countB s slash) s
/-- a variable of the library that is read -/
def G0 (w : World) : Prop := ∃ m : Int, w.cell? ⟨0, 0, none⟩ = some (.int .i64 m)
theorem G0.below {w w1 : World} (h : G0 w) (hb : Below w.heap.size w w1) : G0 w1 := by
  obtain ⟨m, hm⟩ := h
  exact ⟨m, pw_cell_below hb hm⟩
set_option maxRecDepth 20000 in
set_option maxHeartbeats 1000000 in
theorem parts_any (s : ByteArray) (w : World) (hg : G0 w) (hs : s.size ≤ 1000000) :
    Calls Tryd.prog 32 #[.string s] w fun e w' => ∃ A c, e = .returned (.tuple #[.slice A (partsS s).length c, .bool ((partsS s).all isE)]) ∧ (partsS s).length ≤ c ∧ Kd.string.C w' A (partsS s).length (partsS s) ∧ Below w.heap.size w w' := by
  obtain ⟨m, hm⟩ := hg
  by_cases h0 : s.size = 0
  · have e : partsS s = [] := by unfold partsS; rw [if_pos h0]
    have hse : s = ⟨#[]⟩ := by
      cases s with
      | mk d => congr 1; exact Array.size_eq_zero_iff.1 h0
    rw [e]
    subst hse
    clear h0 e hs hm
    go_enter Tryd.func32, Tryd.ntmps32
    go_wp2_with fail
    exact bodyPost_ret (v := .tuple #[.slice none 0 0, .bool true]) (by simp [results, Tryd.results32, go_sem]) rfl ⟨none, 0, rfl, Nat.le_refl _, Kd.C_nil _ _, Below.refl _ _⟩
  · have e : partsS s = Lib.splitB slash 0 (Lib.countB s slash) s := by unfold partsS; rw [if_neg h0]
    have hle := Lib.countB_le slash (by decide) s.size s (Nat.le_refl _)
    have hlen : (partsS s).length = Lib.countB s slash + 1 := by rw [e]; exact Lib.splitB_all slash (by decide) 0 _ s rfl
    have H := Aside0.mk (Tryd.strings_Split s slash m w (by omega) hm (by decide))
    rw [← e] at H
    obtain ⟨l, hl⟩ : ∃ q, partsS s = q := ⟨_, rfl⟩
    rw [hl] at hlen H ⊢
    have hsz : l.length ≤ 1000001 := by omega
    rw [← hlen] at H
    have hsl : (s.toList == []) = false := by
      rw [beq_eq_false_iff_ne]
      intro h
      have h9 : s.toList.length = 0 := by rw [h]; rfl
      rw [toList_data, size_data] at h9
      exact h0 h9
    clear hlen hle e h0 hm hl hs
    go_enter Tryd.func32, Tryd.ntmps32
    go_wp2_with fail
    refine H.out.mono ?_
    rintro e_ w1 ⟨rfl, rfl⟩
    have HCL := Aside0.mk (row_C w l 9 (by omega))
    have HB1 := Aside0.mk (below_alloc (Below.refl _ w) (.cells (l.map Value.string).toArray 9))
    clear H
    go_upto_region 4 with fail
    generalize (w.alloc (.cells (l.map Value.string).toArray 9)) = w1 at *
    obtain ⟨g, hg⟩ : ∃ q, w.heap.size = q := ⟨_, rfl⟩
    rw [hg] at HCL ⊢
    have HGG := Aside0.mk hg
    clear hg
    go_wp2_with fail
    refine (containsFunc_any l _ _ w1 HCL.out (Nat.le_refl _) (by omega)).mono ?_
    rintro e_ w2 ⟨rfl, rfl⟩
    cases hb : l.all isE with
    | true =>
      go_wp2_with fail
      exact bodyPost_ret (v := .tuple #[.slice (some ⟨g, 0, none⟩) l.length l.length, .bool true]) (by simp [results, Tryd.results32, go_sem]) rfl ⟨_, _, by rw [hb], Nat.le_refl _, HCL.out, HB1.out⟩
    | false =>
      go_wp2_with fail
      exact bodyPost_ret (v := .tuple #[.slice (some ⟨g, 0, none⟩) l.length l.length, .bool false]) (by simp [results, Tryd.results32, go_sem]) rfl ⟨_, _, by rw [hb], Nat.le_refl _, HCL.out, HB1.out⟩
end Go.Proofs.YtfnofjcdaghniaaDoor.Tree
/- rows: a row with one more in its midst (slices.Insert): what it needs. Own work. -/
namespace Go.Proofs.YtfnofjcdaghniaaDoor.Tree
set_option linter.unusedVariables false
set_option linter.unusedSimpArgs false
open Go.RowKit Go.Proofs.YtfnofjcdaghniaaDoor.PL Go.Proofs.YtfnofjcdaghniaaDoor.Mt Go.Proofs.YtfnofjcdaghniaaDoorW.PrintWords Go.Proofs.YtfnofjcdaghniaaDoorW.PrintLast Go.Proofs.YtfnofjcdaghniaaDoorW.PrintMore
/-- copy, elements of k cells -/
theorem run_copy_cellsK {P : Program} (k : Nat) (w : World) (dT sT ty elem : TypeId) (b o dLen dCap : Nat) (a : Addr) (sLen sCap : Nat) (cs : List Value)
    (hu : P.underlying dT = some (.slice elem)) (hs : (P.info? elem).map (·.size) = some k) (hn : cs.length = Nat.min sLen dLen * k)
    (hsrc : ∀ j v, cs[j]? = some v → w.cell? (a.add j) = some v) (hc : ∀ j, j < cs.length → (w.cell? ⟨b, o + j, none⟩).isSome = true) (hf : ∀ j, j < cs.length → w.frozen? ⟨b, o + j, none⟩ = false) (h1 : ∀ v ∈ cs, v.oneCell' = true) :
    (Builtin.copy_ #[dT, sT] ty #[.slice (some ⟨b, o, none⟩) dLen dCap, .slice (some a) sLen sCap]).run P w = .ok (goInt (Nat.min sLen dLen)) (w.setCells b o cs) := by
  have hl := run_loadCells_list (P := P) w a cs hsrc
  have hst := run_storeCells_cells (P := P) b o cs 0 w (by simpa using hc) (by simpa using hf) h1
  cases hq : P.info? elem with
  | none => simp [hq] at hs
  | some i =>
    have hi : i.size = k := by simpa [hq] using hs
    simp [Builtin.copy_, run_underlying hu, Builtin.lenOf, Builtin.firstCells, sizeOf, typeInfo, hq, hi, ← hn, hl, hst]
/-- a list with others in the place of some -/
def putL (cur : List Value) (o : Nat) (vs : List Value) : List Value := cur.take o ++ vs ++ cur.drop (o + vs.length)
theorem putL_len {cur vs : List Value} {o : Nat} (h : o + vs.length ≤ cur.length) : (putL cur o vs).length = cur.length := by
  unfold putL
  rw [List.length_append, List.length_append, List.length_take, List.length_drop]
  omega
theorem putL_cons {cur vs : List Value} {v : Value} {o : Nat} (h : o < cur.length) : putL (cur.set o v) (o + 1) vs = putL cur o (v :: vs) := by
  unfold putL
  have e1 : (cur.set o v).take (o + 1) = cur.take o ++ [v] := by
    rw [List.take_succ_eq_append_getElem (by rw [List.length_set]; exact h), List.take_set_of_le (Nat.le_refl _), List.getElem_set_self]
  have e2 : (cur.set o v).drop (o + 1 + vs.length) = cur.drop (o + (v :: vs).length) := by
    rw [List.drop_set_of_lt (by omega), List.length_cons]
    congr 1
    omega
  rw [e1, e2, List.append_assoc, List.append_assoc, List.append_assoc]
  rfl
theorem blk_setCells {g e : Nat} : ∀ (vs : List Value) (o : Nat) (w : World) (cur : List Value), w.heap[g]? = some (.cells cur.toArray e (0, 0)) → o + vs.length ≤ cur.length →
    (w.setCells g o vs).heap[g]? = some (.cells (putL cur o vs).toArray e (0, 0)) := by
  intro vs
  induction vs with
  | nil =>
    intro o w cur h hl
    have e : putL cur o [] = cur := by unfold putL; simp
    rw [e]
    exact h
  | cons v vs ih =>
    intro o w cur h hl
    rw [List.length_cons] at hl
    have h1 := blk_set h o v
    have e : cur.toArray.setIfInBounds o v = (cur.set o v).toArray := by simp
    rw [e] at h1
    have h2 := ih (o + 1) (w.setCell ⟨g, o, none⟩ v) (cur.set o v) h1 (by rw [List.length_set]; omega)
    rw [putL_cons (by omega)] at h2
    exact h2
theorem below_setCells {w0 : World} {g : Nat} (hg : w0.heap.size ≤ g) : ∀ (vs : List Value) (o : Nat) (w : World), Below w0.heap.size w0 w → Below w0.heap.size w0 (w.setCells g o vs) := by
  intro vs
  induction vs with
  | nil => intro o w h; exact h
  | cons v vs ih => intro o w h; exact ih (o + 1) _ (below_set h hg)
theorem Reps.insert {α : Type} {R : α → List Value → Prop} {sz : Nat} {ps : List α} {cs c : List Value} {p : α} (h : Reps R sz ps cs) (hp : R p c) (hc : c.length = sz) {i : Nat} (hi : i ≤ ps.length) : Reps R sz (ps.take i ++ p :: ps.drop i) (cs.take (i * sz) ++ c ++ cs.drop (i * sz)) := by
  obtain ⟨hl, hr⟩ := h
  have hle : i * sz ≤ ps.length * sz := Nat.mul_le_mul_right _ hi
  have hti : (cs.take (i * sz)).length = i * sz := by rw [List.length_take]; omega
  refine ⟨?_, fun j q hq => ?_⟩
  · have e1 : (ps.take i ++ p :: ps.drop i).length = ps.length + 1 := by rw [List.length_append, List.length_cons, List.length_take, List.length_drop]; omega
    rw [e1, List.length_append, List.length_append, hti, List.length_drop, hc, Nat.add_mul]
    omega
  · have hpt : (ps.take i).length = i := by rw [List.length_take]; omega
    rcases Nat.lt_trichotomy j i with hj | hj | hj
    · rw [List.getElem?_append_left (by omega), List.getElem?_take, if_pos hj] at hq
      have h1 := hr j q hq
      have h2 : j * sz + sz ≤ i * sz := by rw [← Nat.succ_mul]; exact Nat.mul_le_mul_right _ hj
      have e : ((cs.take (i * sz) ++ c ++ cs.drop (i * sz)).drop (j * sz)).take sz = (cs.drop (j * sz)).take sz := by
        rw [List.append_assoc, List.drop_append_of_le_length (by omega), List.take_append_of_le_length (by rw [List.length_drop]; omega), List.drop_take, List.take_take]
        congr 1
        omega
      rw [e]
      exact h1
    · subst hj
      rw [List.getElem?_append_right (by omega), hpt, Nat.sub_self, List.getElem?_cons_zero] at hq
      obtain rfl := Option.some.inj hq
      have e : ((cs.take (j * sz) ++ c ++ cs.drop (j * sz)).drop (j * sz)).take sz = c := by
        rw [List.append_assoc, List.drop_left' hti, List.take_left' hc]
      rw [e]
      exact hp
    · rw [List.getElem?_append_right (by omega), hpt] at hq
      obtain ⟨m, rfl⟩ : ∃ m, j = i + 1 + m := ⟨j - i - 1, by omega⟩
      rw [show i + 1 + m - i = m + 1 by omega, List.getElem?_cons_succ, List.getElem?_drop] at hq
      have h1 := hr (i + m) q hq
      have e : ((cs.take (i * sz) ++ c ++ cs.drop (i * sz)).drop ((i + 1 + m) * sz)).take sz = (cs.drop ((i + m) * sz)).take sz := by
        have e1 : (cs.take (i * sz) ++ c).length = (i + 1) * sz := by rw [List.length_append, hti, hc, Nat.add_mul, Nat.one_mul]
        have e2 : (i + 1 + m) * sz = (cs.take (i * sz) ++ c).length + m * sz := by rw [e1, Nat.add_mul]
        rw [e2, List.drop_append, List.drop_eq_nil_of_le (by omega), List.nil_append, List.drop_drop, Nat.add_sub_cancel_left, ← Nat.add_mul]
      rw [e]
      exact h1
theorem far_setCells {g k : Nat} (h : k ≠ g) : ∀ (vs : List Value) (o : Nat) (w : World), (w.setCells g o vs).heap[k]? = w.heap[k]? := by
  intro vs
  induction vs with
  | nil => intro o w; rfl
  | cons v vs ih => intro o w; exact (ih (o + 1) _).trans (Below.heap_setCell w ⟨g, o, none⟩ v k h)
theorem reps_cells1 {α : Type} {R : α → List Value → Prop} {sz : Nat} {ps : List α} {cs : List Value} (h : Reps R sz ps cs) (h1 : ∀ p c, R p c → ∀ u ∈ c, u.oneCell' = true) (hs : 0 < sz) : ∀ u ∈ cs, u.oneCell' = true := by
  intro u hu
  obtain ⟨k, hk, rfl⟩ := List.getElem_of_mem hu
  have hj : k / sz < ps.length := by rw [Nat.div_lt_iff_lt_mul hs, ← h.1]; exact hk
  refine h1 _ _ (h.2 (k / sz) _ (List.getElem?_eq_getElem hj)) _ ?_
  rw [List.mem_iff_getElem?]
  refine ⟨k % sz, ?_⟩
  have hm := Nat.mod_lt k hs
  have hd := Nat.div_add_mod k sz
  rw [List.getElem?_take, if_pos hm, List.getElem?_drop, Nat.mul_comm, hd, List.getElem?_eq_getElem hk]
/-- copy within, or into, rows that are known whole -/
theorem run_copy_blk {P : Program} (k : Nat) (w : World) (dT sT ty elem : TypeId) (b o dLen dCap : Nat) (sb so sLen sCap : Nat) (cs dc sc : List Value) (tb ts : TypeId)
    (hu : P.underlying dT = some (.slice elem)) (hs : (P.info? elem).map (·.size) = some k) (hn : cs.length = Nat.min sLen dLen * k)
    (hd : w.heap[b]? = some (.cells dc.toArray tb (0, 0))) (hsb : w.heap[sb]? = some (.cells sc.toArray ts (0, 0))) (hdl : o + cs.length ≤ dc.length) (hcs : ∀ j v, cs[j]? = some v → sc[so + j]? = some v) (h1 : ∀ v ∈ cs, v.oneCell' = true) :
    (Builtin.copy_ #[dT, sT] ty #[.slice (some ⟨b, o, none⟩) dLen dCap, .slice (some ⟨sb, so, none⟩) sLen sCap]).run P w = .ok (goInt (Nat.min sLen dLen)) (w.setCells b o cs) := by
  refine run_copy_cellsK k w dT sT ty elem b o dLen dCap ⟨sb, so, none⟩ sLen sCap cs hu hs hn (fun j v hj => ?_) (fun j hj => ?_) (fun j hj => blk_frozen hd _) h1
  · have hc := blk_cell hsb (so + j)
    have e : (⟨sb, so, none⟩ : Addr).add j = ⟨sb, so + j, none⟩ := by simp [Addr.add]
    rw [e, hc]
    simpa using hcs j v hj
  · rw [blk_cell hd (o + j)]
    simp
    omega
theorem grown_setCells (w : World) (g : Nat) : ∀ (vs : List Value) (o : Nat) (w1 : World), w.grownBy w1 (some g) → w.grownBy (w1.setCells g o vs) (some g) := by
  intro vs
  induction vs with
  | nil => intro o w1 h; exact h
  | cons v vs ih =>
    intro o w1 h
    refine ih (o + 1) _ ⟨h.os, h.tape, h.output, ?_, fun k hk hne => ?_⟩
    · simpa [World.setCell] using h.size
    · exact (Below.heap_setCell w1 ⟨g, o, none⟩ v k (fun e => hne (by show some k = some g; rw [e]))).trans (h.block k hk hne)
theorem ins_room {cur inner xcs : List Value} {A L s : Nat} (hin : cur.take L = inner) (hL : L + s ≤ cur.length) (hA : A ≤ L) (hx : xcs.length = s) : (putL (putL cur (A + s) (inner.drop A)) A xcs).take (L + s) = inner.take A ++ xcs ++ inner.drop A := by
  have hil : inner.length = L := by rw [← hin, List.length_take]; omega
  have hD : (inner.drop A).length = L - A := by rw [List.length_drop, hil]
  unfold putL
  rw [hD, hx]
  have l1 : (cur.take (A + s)).length = A + s := by rw [List.length_take]; omega
  have e1 : (cur.take (A + s) ++ inner.drop A ++ cur.drop (A + s + (L - A))).take A = inner.take A := by
    rw [List.append_assoc, List.take_append_of_le_length (by omega), List.take_take, ← hin, List.take_take]
    congr 1
    omega
  have e2 : (cur.take (A + s) ++ inner.drop A ++ cur.drop (A + s + (L - A))).drop (A + s) = inner.drop A ++ cur.drop (A + s + (L - A)) := by
    rw [List.append_assoc, List.drop_left' l1]
  rw [e1, e2, ← List.append_assoc]
  exact List.take_left' (by rw [List.length_append, List.length_append, hD, hx, List.length_take, hil]; omega)
theorem ins_grow {row inner xcs : List Value} {A L s : Nat} (hin : row.take A = inner.take A) (hil : inner.length = L) (hL : L + s ≤ row.length) (hA : A ≤ L) (hx : xcs.length = s) : (putL (putL row A xcs) (A + s) (inner.drop A)).take (L + s) = inner.take A ++ xcs ++ inner.drop A := by
  have hD : (inner.drop A).length = L - A := by rw [List.length_drop, hil]
  unfold putL
  rw [hD, hx]
  have l1 : (row.take A ++ xcs).length = A + s := by rw [List.length_append, List.length_take, hx]; omega
  have e1 : (row.take A ++ xcs ++ row.drop (A + s)).take (A + s) = inner.take A ++ xcs := by rw [List.take_left' l1, hin]
  rw [e1]
  exact List.take_left' (by rw [List.length_append, List.length_append, hD, hx, List.length_take, hil]; omega)
end Go.Proofs.YtfnofjcdaghniaaDoor.Tree
/- rows: slices.Insert of one text, of one tree (told by its cells). Own work; printed by gen_in.py. -/
namespace Go.Proofs.YtfnofjcdaghniaaDoor.Tree
set_option linter.unusedVariables false
set_option linter.unusedSimpArgs false
open Go.RowKit Go.Lib Go.Proofs.YtfnofjcdaghniaaDoor.PL Go.Proofs.YtfnofjcdaghniaaDoor.Mt Go.Proofs.YtfnofjcdaghniaaDoorW.PrintWords Go.Proofs.YtfnofjcdaghniaaDoorW.PrintLast Go.Proofs.YtfnofjcdaghniaaDoorW.PrintMore
/-- where a row lies behind an insertion -/
def Ins (w : World) (et sz g n : Nat) (inner xcs : List Value) (i : Nat) (e : Ending) (w' : World) : Prop := ∃ (g2 c2 : Nat) (fin : List Value), e = .returned (.slice (some ⟨g2, 0, none⟩) (n + 1) c2) ∧ w'.heap[g2]? = some (.cells fin.toArray et (0, 0)) ∧ n + 1 ≤ c2 ∧ c2 ≤ 9223372036854775807 ∧ fin.length = c2 * sz ∧ fin.take ((n + 1) * sz) = inner.take (i * sz) ++ xcs ++ inner.drop (i * sz) ∧ ((g2 = g ∧ w.grownBy w' (some g)) ∨ (w.heap.size ≤ g2 ∧ Below w.heap.size w w'))
/-- what an insertion leaves -/
def sinsertP (base : Nat) (w : World) (v : Value) (xs : List ByteArray) (e : Ending) (w' : World) : Prop := ∃ v1, e = .returned v1 ∧ Kd.string.R 9 w' base (fun _ => True) v1 xs ∧ Below base w w' ∧ w.grownBy w' v.ownBlock ∧ (v1.ownBlock = v.ownBlock ∨ ∃ b, v1.ownBlock = some b ∧ w.heap.size ≤ b)
set_option maxHeartbeats 4000000 in
set_option maxRecDepth 100000 in
theorem sinsert_end (base : Nat) (w : World) (v : Value) (xs : List ByteArray) (x : ByteArray) (vb : Nat) (hB : base ≤ w.heap.size) (hR : Kd.string.R 9 w base (fun _ => True) v xs)
    (hb : w.heap[vb]? = some (.cells ([.string x] : List Value).toArray 9 (0, 0)))  (hne : some vb ≠ v.ownBlock) (hl : xs.length ≤ 1000000) :
    Calls Tryd.prog 51 #[v, .int .i64 xs.length, .slice (some ⟨vb, 0, none⟩) 1 1] w (sinsertP base w v (xs ++ [x])) := by
  have HX : Aside0 (Kd.string.C w (some ⟨vb, 0, none⟩) 1 [x]) := ⟨by
    refine ⟨rfl, by decide, fun _ => ⟨_, rfl, fun j p hp => ?_⟩⟩
    have hj : j = 0 := by have := (List.getElem?_eq_some_iff.1 hp).1; simp at this; exact this
    subst hj
    simp only [List.getElem?_cons_zero, Option.some.injEq] at hp
    subst hp
    refine ⟨[.string x], rfl, rfl, fun i u hi => ?_⟩
    have hc := blk_cell hb i
    have e : (⟨vb, 0, none⟩ : Addr).add (0 * 1 + i) = ⟨vb, i, none⟩ := by simp [Addr.add]; exact fun h => h.symm
    show w.cell? ((⟨vb, 0, none⟩ : Addr).add (0 * 1 + i)) = some u
    rw [e, hc]
    simpa using hi⟩
  have HR := Aside0.mk hR
  have HB := Aside0.mk hB
  obtain ⟨A, c, rfl, hc, hC⟩ := Kd.R_reads hR
  have hcm : xs.length ≤ (c : Int) := by omega
  clear hR hB hb hC hne
  go_enter Tryd.func51, Tryd.ntmps51
  go_wp2_with ((with_reducible refine gate_builtin (b := .append) (xs := #[.tmp 23, .tmp 24]) rfl ?_); at_builtin; refine Kd.R_append_rows Kd.string (w0 := w) base rfl (.tmp 23) (.tmp 24) 23 9 (.string ⟨#[]⟩) 16 rfl Tryd.underlying23 info9 rfl (by decide) (by decide) (.slice A xs.length c) xs [x] _ _ _ (fun _ => True) (fun _ => False) rfl rfl HR.out HX.out (fun _ _ h => h) (fun _ h => h.elim) (fun _ _ => trivial) (Below.refl base w) HB.out (by omega) ?_; intro v2 w2 ho hb hg hat; have HO2 := Aside0.mk ho; have HB2 := Aside0.mk (And.intro hb (And.intro hg hat)); clear ho hb hg hat)
  all_goals first | exact bodyPost_ret (v := v2) (by simp [results, Tryd.results51, go_sem]) rfl ⟨v2, rfl, HO2.out, HB2.out.1, HB2.out.2.1, HB2.out.2.2⟩ | (have hcc : c = xs.length := (by assumption); subst hcc; exact bodyPost_ret (v := v2) (by simp [results, Tryd.results51, go_sem]) rfl ⟨v2, rfl, HO2.out, HB2.out.1, HB2.out.2.1, HB2.out.2.2⟩)
/-- what an insertion leaves -/
def tinsertP (base : Nat) (w : World) (v : Value) (xs : List (List Value)) (e : Ending) (w' : World) : Prop := ∃ v1, e = .returned v1 ∧ kraw.R 26 w' base (fun _ => True) v1 xs ∧ Below base w w' ∧ w.grownBy w' v.ownBlock ∧ (v1.ownBlock = v.ownBlock ∨ ∃ b, v1.ownBlock = some b ∧ w.heap.size ≤ b)
set_option maxHeartbeats 4000000 in
set_option maxRecDepth 100000 in
theorem tinsert_end (base : Nat) (w : World) (v : Value) (xs : List (List Value)) (x : (List Value)) (vb : Nat) (hB : base ≤ w.heap.size) (hR : kraw.R 26 w base (fun _ => True) v xs)
    (hb : w.heap[vb]? = some (.cells (x : List Value).toArray 26 (0, 0))) (hx5 : x.length = 5) (hx1 : ∀ u ∈ x, u.oneCell' = true) (hne : some vb ≠ v.ownBlock) (hl : xs.length ≤ 1000000) :
    Calls Tryd.prog 52 #[v, .int .i64 xs.length, .slice (some ⟨vb, 0, none⟩) 1 1] w (tinsertP base w v (xs ++ [x])) := by
  have HX : Aside0 (kraw.C w (some ⟨vb, 0, none⟩) 1 [x]) := ⟨by
    refine ⟨rfl, by decide, fun _ => ⟨_, rfl, fun j p hp => ?_⟩⟩
    have hj : j = 0 := by have := (List.getElem?_eq_some_iff.1 hp).1; simp at this; exact this
    subst hj
    simp only [List.getElem?_cons_zero, Option.some.injEq] at hp
    subst hp
    refine ⟨x, hx5, ⟨rfl, hx5, hx1⟩, fun i u hi => ?_⟩
    have hc := blk_cell hb i
    have e : (⟨vb, 0, none⟩ : Addr).add (0 * 5 + i) = ⟨vb, i, none⟩ := by simp [Addr.add]; exact fun h => h.symm
    show w.cell? ((⟨vb, 0, none⟩ : Addr).add (0 * 5 + i)) = some u
    rw [e, hc]
    simpa using hi⟩
  have HR := Aside0.mk hR
  have HB := Aside0.mk hB
  obtain ⟨A, c, rfl, hc, hC⟩ := Kd.R_reads hR
  have hcm : xs.length ≤ (c : Int) := by omega
  clear hR hB hb hC hne
  go_enter Tryd.func52, Tryd.ntmps52
  go_wp2_with ((with_reducible refine gate_builtin (b := .append) (xs := #[.tmp 23, .tmp 24]) rfl ?_); at_builtin; refine Kd.R_append_rows kraw (w0 := w) base rfl (.tmp 23) (.tmp 24) 24 26 (.agg #[.int .i64 0, .bool false, .slice none 0 0, .slice none 0 0, .slice none 0 0]) 88 rfl Tryd.underlying24 (by kernel_rfl) rfl (by decide) (by decide) (.slice A xs.length c) xs [x] _ _ _ (fun _ => True) (fun _ => False) rfl rfl HR.out HX.out (fun _ _ h => h) (fun _ h => h.elim) (fun _ _ => trivial) (Below.refl base w) HB.out (by omega) ?_; intro v2 w2 ho hb hg hat; have HO2 := Aside0.mk ho; have HB2 := Aside0.mk (And.intro hb (And.intro hg hat)); clear ho hb hg hat)
  all_goals first | exact bodyPost_ret (v := v2) (by simp [results, Tryd.results52, go_sem]) rfl ⟨v2, rfl, HO2.out, HB2.out.1, HB2.out.2.1, HB2.out.2.2⟩ | (have hcc : c = xs.length := (by assumption); subst hcc; exact bodyPost_ret (v := v2) (by simp [results, Tryd.results52, go_sem]) rfl ⟨v2, rfl, HO2.out, HB2.out.1, HB2.out.2.1, HB2.out.2.2⟩)
set_option maxHeartbeats 4000000 in
set_option maxRecDepth 100000 in
theorem sinsert_room (w : World) (g n c i vb : Nat) (cur inner xcs : List Value) (hin : inner.length = n * 1) (hblk : w.heap[g]? = some (.cells cur.toArray 9 (0, 0))) (hnc : n + 1 ≤ c) (hcm : c ≤ 9223372036854775807) (hsz : cur.length = c * 1) (htk : cur.take (n * 1) = inner) (h1 : ∀ u ∈ inner, u.oneCell' = true)
    (hb : w.heap[vb]? = some (.cells xcs.toArray 9 (0, 0))) (hx5 : xcs.length = 1) (hx1 : ∀ u ∈ xcs, u.oneCell' = true) (hne : vb ≠ g) (hi : i < n) :
    Calls Tryd.prog 51 #[.slice (some ⟨g, 0, none⟩) n c, .int .i64 i, .slice (some ⟨vb, 0, none⟩) 1 1] w (Ins w 9 1 g n inner xcs i) := by
  have hov : ∀ lb cb, (callFunc 65 #[.slice (some ⟨vb, 0, none⟩) 1 1, .slice (some ⟨g, (i + 1), none⟩) lb cb]).run Tryd.prog w = .ok (.value (.bool false)) w := fun lb cb => by
    rw [run_callFunc_extern Tryd.func65 (by kernel_rfl) (by kernel_rfl) (by kernel_rfl) (e := Extern.SlicesOverlaps.overlaps #[23, 23] #[4]) (by kernel_rfl),
      Lib.run_overlaps_apart w 23 4 9 Tryd.underlying23 1 Tryd.sizeOf9 ⟨vb, 0, none⟩ ⟨g, (i + 1), none⟩ 1 1 lb cb hne 9 9 xcs.length cur.length (by simp [World.shape?, hb]) (by simp [World.shape?, hblk]) (by omega) (blk_frozen hb 0) (blk_frozen hb _)]
    rfl
  go_enter Tryd.func51, Tryd.ntmps51
  go_wp2_with (simp only [hov])
  have hdl : (inner.drop (i)).length = (n - i) * 1 := by rw [List.length_drop, hin]; omega
  have hle1 : (i + 1) + (inner.drop (i)).length ≤ cur.length := by rw [hdl]; omega
  have hinc : ∀ j v, inner[j]? = some v → cur[j]? = some v := fun j v h => by
    rw [← htk, List.getElem?_take] at h
    split at h
    · exact h
    · cases h
  have hszi : (Tryd.prog.info? 9).map (·.size) = some 1 := by kernel_rfl
  have hcp1 : ∀ (W : World), W.heap[g]? = some (.cells cur.toArray 9 (0, 0)) → ∀ ty dl dc sl sc, dl = n - i → n - i ≤ sl → (Builtin.copy_ #[23, 23] ty #[.slice (some ⟨g, (i + 1), none⟩) dl dc, .slice (some ⟨g, i, none⟩) sl sc]).run Tryd.prog W = .ok (goInt (Nat.min sl dl)) (W.setCells g ((i + 1)) (inner.drop (i))) := fun W hW ty dl dc sl sc h2 h3 =>
    run_copy_blk 1 W 23 23 ty 9 g ((i + 1)) dl dc g (i) sl sc _ cur cur 9 9 Tryd.underlying23 hszi (by rw [hdl, show Nat.min sl dl = n - i from (show min sl dl = n - i by omega)]) hW hW hle1 (fun j v hj => hinc _ _ (by rw [List.getElem?_drop] at hj; exact hj)) (fun v hv => h1 v (List.mem_of_mem_drop hv))
  have hcp2 : ∀ (W : World) (dc : List Value), W.heap[g]? = some (.cells dc.toArray 9 (0, 0)) → W.heap[vb]? = some (.cells xcs.toArray 9 (0, 0)) → dc.length = cur.length → ∀ ty dl dcap, 1 ≤ dl → (Builtin.copy_ #[23, 23] ty #[.slice (some ⟨g, i, none⟩) dl dcap, .slice (some ⟨vb, 0, none⟩) 1 1]).run Tryd.prog W = .ok (goInt (Nat.min 1 dl)) (W.setCells g (i) xcs) := fun W dc hW hV hl ty dl dcap h2 =>
    run_copy_blk 1 W 23 23 ty 9 g (i) dl dcap vb 0 1 1 xcs dc xcs 9 9 Tryd.underlying23 hszi (by rw [hx5, show Nat.min 1 dl = 1 from (show min 1 dl = 1 by omega)]) hW hV (by omega) (fun j v hj => by rw [Nat.zero_add]; exact hj) hx1
  have hW1 := blk_setCells (inner.drop (i)) ((i + 1)) w.drew cur hblk hle1
  have hV1 : (w.drew.setCells g ((i + 1)) (inner.drop (i))).heap[vb]? = some (.cells xcs.toArray 9 (0, 0)) := (far_setCells hne _ _ _).trans hb
  have hpl := putL_len hle1
  have hw1 : IntKind.i64.wrap ((i : Int) + 1) = (i : Int) + 1 := by rw [IntKind.wrap_i64]; omega
  have hb1 : (0 : Int) ≤ (i : Int) + 1 := by omega
  have hb3 : (i : Int) ≤ (n : Int) + 1 := by omega
  have hb4 : (i : Int) + 1 ≤ (n : Int) + 1 := by omega
  have htn : ((i : Int) + 1).toNat = i + 1 := by omega
  have hc4 : ¬ (c = i) := by omega
  have hc5 : ¬ (c = i + 1) := by omega
  have HP1 := Aside0.mk hcp1
  have HP2 := Aside0.mk hcp2
  have HW1 := Aside0.mk (And.intro hW1 (And.intro hV1 hpl))
  have HBK := Aside0.mk hblk
  have HTK := Aside0.mk htk
  clear hcp1 hcp2 hW1 hV1 hpl hinc hdl hle1 hblk hb htk h1 hx1 hov
  go_region_law (refine step_copy_runI rfl _ _ 23 23 rfl (.slice (some ⟨g, (i + 1), none⟩) (n - i) (c - (i + 1))) (.slice (some ⟨g, i, none⟩) (n + 1 - i) (c - i)) (by simp [Act.eval, Act.put]) (by simp [Act.eval, Act.put]) (HP1.out w.drew HBK.out _ _ _ _ _ (by omega) (by omega)) ?_)
  have hc9 := HP2.out (w.drew.setCells g ((i + 1)) (inner.drop (i))) _ HW1.out.1 HW1.out.2.1 HW1.out.2.2 3 (n + 1 - i) (c - i) (by omega)
  go_wp2_with fail
  have hl2 := HW1.out.2.2
  have hF := blk_setCells xcs (i) _ _ HW1.out.1 (by rw [hl2, hx5]; omega)
  have hT := ins_room (cur := cur) (inner := inner) (xcs := xcs) (A := i) (L := n * 1) (s := 1) HTK.out (by omega) (by omega) hx5
  rw [show i + 1 = (i + 1) by omega, show n * 1 + 1 = (n + 1) * 1 by omega] at hT
  exact bodyPost_ret (v := .slice (some ⟨g, 0, none⟩) (n + 1) c) (by simp [results, Tryd.results51, go_sem]) rfl ⟨g, c, _, rfl, hF, hnc, hcm, by rw [putL_len (by rw [hl2, hx5]; omega), hl2, hsz], (by first | exact hT | simpa only [Nat.mul_one] using hT), .inl ⟨rfl, grown_setCells w g _ _ _ (grown_setCells w g _ _ _ ⟨rfl, rfl, rfl, Nat.le_refl _, fun _ _ _ => rfl⟩)⟩⟩
set_option maxHeartbeats 4000000 in
set_option maxRecDepth 100000 in
theorem tinsert_room (w : World) (g n c i vb : Nat) (cur inner xcs : List Value) (hin : inner.length = n * 5) (hblk : w.heap[g]? = some (.cells cur.toArray 26 (0, 0))) (hnc : n + 1 ≤ c) (hcm : c ≤ 9223372036854775807) (hsz : cur.length = c * 5) (htk : cur.take (n * 5) = inner) (h1 : ∀ u ∈ inner, u.oneCell' = true)
    (hb : w.heap[vb]? = some (.cells xcs.toArray 26 (0, 0))) (hx5 : xcs.length = 5) (hx1 : ∀ u ∈ xcs, u.oneCell' = true) (hne : vb ≠ g) (hi : i < n) :
    Calls Tryd.prog 52 #[.slice (some ⟨g, 0, none⟩) n c, .int .i64 i, .slice (some ⟨vb, 0, none⟩) 1 1] w (Ins w 26 5 g n inner xcs i) := by
  have hov : ∀ lb cb, (callFunc 67 #[.slice (some ⟨vb, 0, none⟩) 1 1, .slice (some ⟨g, (i + 1) * 5, none⟩) lb cb]).run Tryd.prog w = .ok (.value (.bool false)) w := fun lb cb => by
    rw [run_callFunc_extern Tryd.func67 (by kernel_rfl) (by kernel_rfl) (by kernel_rfl) (e := Extern.SlicesOverlaps.overlaps #[24, 24] #[4]) (by kernel_rfl),
      Lib.run_overlaps_apart w 24 4 26 Tryd.underlying24 5 Tryd.sizeOf26 ⟨vb, 0, none⟩ ⟨g, (i + 1) * 5, none⟩ 1 1 lb cb hne 26 26 xcs.length cur.length (by simp [World.shape?, hb]) (by simp [World.shape?, hblk]) (by omega) (blk_frozen hb 0) (blk_frozen hb _)]
    rfl
  go_enter Tryd.func52, Tryd.ntmps52
  go_wp2_with (simp only [hov])
  have hdl : (inner.drop (i * 5)).length = (n - i) * 5 := by rw [List.length_drop, hin]; omega
  have hle1 : (i + 1) * 5 + (inner.drop (i * 5)).length ≤ cur.length := by rw [hdl]; omega
  have hinc : ∀ j v, inner[j]? = some v → cur[j]? = some v := fun j v h => by
    rw [← htk, List.getElem?_take] at h
    split at h
    · exact h
    · cases h
  have hszi : (Tryd.prog.info? 26).map (·.size) = some 5 := by kernel_rfl
  have hcp1 : ∀ (W : World), W.heap[g]? = some (.cells cur.toArray 26 (0, 0)) → ∀ ty dl dc sl sc, dl = n - i → n - i ≤ sl → (Builtin.copy_ #[24, 24] ty #[.slice (some ⟨g, (i + 1) * 5, none⟩) dl dc, .slice (some ⟨g, i * 5, none⟩) sl sc]).run Tryd.prog W = .ok (goInt (Nat.min sl dl)) (W.setCells g ((i + 1) * 5) (inner.drop (i * 5))) := fun W hW ty dl dc sl sc h2 h3 =>
    run_copy_blk 5 W 24 24 ty 26 g ((i + 1) * 5) dl dc g (i * 5) sl sc _ cur cur 26 26 Tryd.underlying24 hszi (by rw [hdl, show Nat.min sl dl = n - i from (show min sl dl = n - i by omega)]) hW hW hle1 (fun j v hj => hinc _ _ (by rw [List.getElem?_drop] at hj; exact hj)) (fun v hv => h1 v (List.mem_of_mem_drop hv))
  have hcp2 : ∀ (W : World) (dc : List Value), W.heap[g]? = some (.cells dc.toArray 26 (0, 0)) → W.heap[vb]? = some (.cells xcs.toArray 26 (0, 0)) → dc.length = cur.length → ∀ ty dl dcap, 1 ≤ dl → (Builtin.copy_ #[24, 24] ty #[.slice (some ⟨g, i * 5, none⟩) dl dcap, .slice (some ⟨vb, 0, none⟩) 1 1]).run Tryd.prog W = .ok (goInt (Nat.min 1 dl)) (W.setCells g (i * 5) xcs) := fun W dc hW hV hl ty dl dcap h2 =>
    run_copy_blk 5 W 24 24 ty 26 g (i * 5) dl dcap vb 0 1 1 xcs dc xcs 26 26 Tryd.underlying24 hszi (by rw [hx5, show Nat.min 1 dl = 1 from (show min 1 dl = 1 by omega)]) hW hV (by omega) (fun j v hj => by rw [Nat.zero_add]; exact hj) hx1
  have hW1 := blk_setCells (inner.drop (i * 5)) ((i + 1) * 5) w.drew cur hblk hle1
  have hV1 : (w.drew.setCells g ((i + 1) * 5) (inner.drop (i * 5))).heap[vb]? = some (.cells xcs.toArray 26 (0, 0)) := (far_setCells hne _ _ _).trans hb
  have hpl := putL_len hle1
  have hw1 : IntKind.i64.wrap ((i : Int) + 1) = (i : Int) + 1 := by rw [IntKind.wrap_i64]; omega
  have hb1 : (0 : Int) ≤ (i : Int) + 1 := by omega
  have hb3 : (i : Int) ≤ (n : Int) + 1 := by omega
  have hb4 : (i : Int) + 1 ≤ (n : Int) + 1 := by omega
  have htn : ((i : Int) + 1).toNat = i + 1 := by omega
  have hc4 : ¬ (c = i) := by omega
  have hc5 : ¬ (c = i + 1) := by omega
  have HP1 := Aside0.mk hcp1
  have HP2 := Aside0.mk hcp2
  have HW1 := Aside0.mk (And.intro hW1 (And.intro hV1 hpl))
  have HBK := Aside0.mk hblk
  have HTK := Aside0.mk htk
  clear hcp1 hcp2 hW1 hV1 hpl hinc hdl hle1 hblk hb htk h1 hx1 hov
  go_region_law (refine step_copy_runI rfl _ _ 24 24 rfl (.slice (some ⟨g, (i + 1) * 5, none⟩) (n - i) (c - (i + 1))) (.slice (some ⟨g, i * 5, none⟩) (n + 1 - i) (c - i)) (by simp [Act.eval, Act.put]) (by simp [Act.eval, Act.put]) (HP1.out w.drew HBK.out _ _ _ _ _ (by omega) (by omega)) ?_)
  have hc9 := HP2.out (w.drew.setCells g ((i + 1) * 5) (inner.drop (i * 5))) _ HW1.out.1 HW1.out.2.1 HW1.out.2.2 3 (n + 1 - i) (c - i) (by omega)
  go_wp2_with fail
  have hl2 := HW1.out.2.2
  have hF := blk_setCells xcs (i * 5) _ _ HW1.out.1 (by rw [hl2, hx5]; omega)
  have hT := ins_room (cur := cur) (inner := inner) (xcs := xcs) (A := i * 5) (L := n * 5) (s := 5) HTK.out (by omega) (by omega) hx5
  rw [show i * 5 + 5 = (i + 1) * 5 by omega, show n * 5 + 5 = (n + 1) * 5 by omega] at hT
  exact bodyPost_ret (v := .slice (some ⟨g, 0, none⟩) (n + 1) c) (by simp [results, Tryd.results52, go_sem]) rfl ⟨g, c, _, rfl, hF, hnc, hcm, by rw [putL_len (by rw [hl2, hx5]; omega), hl2, hsz], (by first | exact hT | simpa only [Nat.mul_one] using hT), .inl ⟨rfl, grown_setCells w g _ _ _ (grown_setCells w g _ _ _ ⟨rfl, rfl, rfl, Nat.le_refl _, fun _ _ _ => rfl⟩)⟩⟩
set_option maxHeartbeats 4000000 in
set_option maxRecDepth 100000 in
theorem sinsert_grow (w : World) (g n c i vb : Nat) (cur inner xcs : List Value) (hin : inner.length = n * 1) (hblk : w.heap[g]? = some (.cells cur.toArray 9 (0, 0))) (hnc : n ≤ c) (hcn : c < n + 1) (hcm : c ≤ 9223372036854775807) (hn6 : n ≤ 1000000) (hsz : cur.length = c * 1) (htk : cur.take (n * 1) = inner) (h1 : ∀ u ∈ inner, u.oneCell' = true)
    (hb : w.heap[vb]? = some (.cells xcs.toArray 9 (0, 0))) (hx5 : xcs.length = 1) (hx1 : ∀ u ∈ xcs, u.oneCell' = true) (hi : i < n) :
    Calls Tryd.prog 51 #[.slice (some ⟨g, 0, none⟩) n c, .int .i64 i, .slice (some ⟨vb, 0, none⟩) 1 1] w (Ins w 9 1 g n inner xcs i) := by
  obtain ⟨i0, hi0, hz0, hzs, hzb⟩ := info_parts (show (Tryd.prog.info? 9).map (fun i => (i.zero, i.size, i.bytes)) = some (some (.string ⟨#[]⟩), 1, 16) by kernel_rfl)
  have hinc : ∀ j v, inner[j]? = some v → cur[j]? = some v := fun j v h => by
    rw [← htk, List.getElem?_take] at h
    split at h
    · exact h
    · cases h
  have hold : (Builtin.firstCells i0.size i (.slice (some ⟨g, 0, none⟩) i c)).run Tryd.prog w.drew = .ok (inner.take (i)).toArray w.drew := by
    rw [hzs]
    exact run_firstCells_some w.drew 1 i ⟨g, 0, none⟩ i c (inner.take (i)) (by rw [List.length_take, hin]; omega) (fun j v hj => by
      have hc := blk_cell hblk j
      have e : (⟨g, 0, none⟩ : Addr).add j = ⟨g, j, none⟩ := by simp [Addr.add]; exact fun h => h.symm
      show w.cell? _ = _
      rw [e, hc]
      rw [List.getElem?_take] at hj
      split at hj
      · simpa using hinc j v hj
      · cases hj)
  obtain ⟨k, hk⟩ : ∃ k : Nat, k = n + 1 - i := ⟨_, rfl⟩
  have hkI : (n : Int) + 1 - (i : Int) = (k : Int) := by omega
  have hik : i + k = n + 1 := by omega
  have hA := Lib.run_append_grow_zeros w 23 3 23 9 i0 _ .i64 .i64 Tryd.underlying23 Tryd.underlying3 hi0 hz0 (some ⟨g, 0, none⟩) i c (inner.take (i)) hold k (by omega) (by omega) (by omega) (by omega) (by rw [hzb]; omega) (by rw [hzb, hik]; exact growslice_fits (by omega) (by omega))
  rw [hik, ← hkI] at hA
  have hGn : n + 1 ≤ grownCap w (n + 1) c 9 := grownCap_ge w _ _ _
  have hG63 : grownCap w (n + 1) c 9 ≤ 9223372036854775807 := by
    have := grownCap_le_maxLen w (n + 1) c 9 (by unfold maxLen; omega)
    unfold maxLen at this
    omega
  obtain ⟨G, hG⟩ : ∃ G, grownCap w (n + 1) c 9 = G := ⟨_, rfl⟩
  rw [hG] at hA hGn hG63
  obtain ⟨ROW, hROW⟩ : ∃ ROW : List Value, (inner.take (i)) ++ (Builtin.zeroCells (.string ⟨#[]⟩ : Value).cells k).toList ++ (Builtin.zeroCells (.string ⟨#[]⟩ : Value).cells (G - (n + 1))).toList = ROW := ⟨_, rfl⟩
  have hRA : (inner.take (i)).toArray ++ Builtin.zeroCells (.string ⟨#[]⟩ : Value).cells k ++ Builtin.zeroCells (.string ⟨#[]⟩ : Value).cells (G - (n + 1)) = ROW.toArray := by
    rw [← hROW]
    simp
  rw [hRA] at hA
  have hzc : (.string ⟨#[]⟩ : Value).cells.size = 1 := by kernel_rfl
  have hti : (inner.take (i)).length = i := by rw [List.length_take, hin]; omega
  have hRl : ROW.length = G * 1 := by
    rw [← hROW, List.length_append, List.length_append, hti, Array.length_toList, Array.length_toList, size_zeroCells, size_zeroCells, hzc]
    omega
  have hRt : ROW.take (i) = inner.take (i) := by rw [← hROW, List.append_assoc, List.take_left' hti]
  clear hRA hROW hold hi0 hz0 hzs hzb hG hzc
  obtain ⟨W1, hW1⟩ : ∃ W, (w.alloc (.cells ROW.toArray 9)).drew = W := ⟨_, rfl⟩
  have hA : (Builtin.append_ #[23, 3] 23 #[.slice (some ⟨g, 0, none⟩) i c, .int .i64 ((n : Int) + 1 - (i : Int))]).run Tryd.prog w = .ok (.slice (some ⟨w.heap.size, 0, none⟩) (n + 1) G) W1 := by rw [← hW1]; exact hA
  have hbk1 : W1.heap[w.heap.size]? = some (.cells ROW.toArray 9 (0, 0)) := by rw [← hW1]; exact heap_alloc_new w _
  have hbl1 : Below w.heap.size w W1 := by rw [← hW1]; exact below_drew (below_alloc (Below.refl _ w) _)
  have hbg1 := (hbl1.block _ (blk_lt hblk)).trans hblk
  have hbv1 := (hbl1.block _ (blk_lt hb)).trans hb
  clear hW1
  have hgN : g ≠ w.heap.size := by have := blk_lt hblk; omega
  have hszi : (Tryd.prog.info? 9).map (·.size) = some 1 := by kernel_rfl
  have hB := run_copy_blk 1 W1 23 23 3 9 w.heap.size (i) (n + 1 - i) (G - i) vb 0 1 1 xcs ROW xcs 9 9 Tryd.underlying23 hszi (by rw [hx5, show Nat.min 1 (n + 1 - i) = 1 from (show min 1 (n + 1 - i) = 1 by omega)]) hbk1 hbv1 (by omega) (fun j v hj => by rw [Nat.zero_add]; exact hj) hx1
  obtain ⟨W2, hW2⟩ : ∃ W, W1.setCells w.heap.size (i) xcs = W := ⟨_, rfl⟩
  have hbk2 := blk_setCells xcs (i) W1 ROW hbk1 (by omega)
  have hbg2 := (far_setCells hgN xcs (i) W1).trans hbg1
  have hbl2 := below_setCells (Nat.le_refl _) xcs (i) W1 hbl1
  rw [hW2] at hB hbk2 hbg2 hbl2
  clear hW2
  have hdl : (inner.drop (i)).length = (n - i) * 1 := by rw [List.length_drop, hin]; omega
  have hpl := putL_len (cur := ROW) (vs := xcs) (o := i) (by omega)
  have hC := run_copy_blk 1 W2.drew 23 23 3 9 w.heap.size ((i + 1)) (n - i) (G - (i + 1)) g (i) (n - i) (c - i) (inner.drop (i)) _ cur 9 9 Tryd.underlying23 hszi (by rw [hdl, show Nat.min (n - i) (n - i) = n - i from (show min (n - i) (n - i) = n - i by omega)]) hbk2 hbg2 (by rw [hdl, hpl]; omega) (fun j v hj => hinc _ _ (by rw [List.getElem?_drop] at hj; exact hj)) (fun v hv => h1 v (List.mem_of_mem_drop hv))
  have hbk3 := blk_setCells (inner.drop (i)) ((i + 1)) W2.drew _ hbk2 (by rw [hdl, hpl]; omega)
  have hbl3 := below_setCells (Nat.le_refl _) (inner.drop (i)) ((i + 1)) W2.drew (below_drew hbl2)
  have hl3 := putL_len (cur := putL ROW (i) xcs) (vs := inner.drop (i)) (o := (i + 1)) (by rw [hdl, hpl]; omega)
  obtain ⟨W3, hW3⟩ : ∃ W, W2.drew.setCells w.heap.size ((i + 1)) (inner.drop (i)) = W := ⟨_, rfl⟩
  rw [hW3] at hC hbk3 hbl3
  clear hW3
  have hT := ins_grow (row := ROW) (inner := inner) (xcs := xcs) (A := i) (L := n * 1) (s := 1) hRt hin (by omega) (by omega) hx5
  rw [show i + 1 = (i + 1) by omega, show n * 1 + 1 = (n + 1) * 1 by omega] at hT
  have HT := Aside0.mk hT
  have HK := Aside0.mk (And.intro hbk3 (And.intro hbl3 (hl3.trans (hpl.trans hRl))))
  have HCP := Aside0.mk hC
  have hw1 : IntKind.i64.wrap ((i : Int) + 1) = (i : Int) + 1 := by rw [IntKind.wrap_i64]; omega
  have hb1 : (0 : Int) ≤ (i : Int) + 1 := by omega
  have hb3 : (i : Int) ≤ (n : Int) + 1 := by omega
  have hb4 : (i : Int) + 1 ≤ (n : Int) + 1 := by omega
  have htn : ((i : Int) + 1).toNat = i + 1 := by omega
  have hc4 : ¬ (G = i) := by omega
  have hc5 : ¬ (G = i + 1) := by omega
  have hc6 : ¬ (c = i) := by omega
  have hcc : (c : Int) < (n : Int) + 1 := by omega
  obtain ⟨H, hH⟩ : ∃ q, w.heap.size = q := ⟨_, rfl⟩
  rw [hH] at HCP HK hB hA
  have HH := Aside0.mk hH
  clear hH hT hbk3 hbl3 hl3 hC hbk2 hbg2 hbl2 hbk1 hbl1 hbg1 hbv1 hpl hdl hRt hRl hinc hti hgN h1 hx1 htk hblk hb hsz hin hkI hik hk
  have HA := Aside0.mk hA
  have hin9 : i ≤ n := by omega
  clear hA
  go_enter Tryd.func51, Tryd.ntmps51
  go_wp2_with (at_builtin; refine Lib.wpList_append_run _ rfl _ _ _ _ rfl _ _ rfl rfl _ _ HA.out ?_)
  go_region_law (refine step_copy_runI rfl _ _ 23 23 rfl (.slice (some ⟨H, (i + 1), none⟩) (n - i) (G - (i + 1))) (.slice (some ⟨g, i, none⟩) (n - i) (c - i)) (by simp [Act.eval, Act.put]) (by simp [Act.eval, Act.put]) HCP.out ?_)
  go_wp2_with fail
  exact bodyPost_ret (v := .slice (some ⟨H, 0, none⟩) (n + 1) G) (by simp [results, Tryd.results51, go_sem]) rfl ⟨H, G, _, rfl, HK.out.1, hGn, hG63, HK.out.2.2, (by first | exact HT.out | simpa only [Nat.mul_one] using HT.out), .inr ⟨by rw [HH.out]; exact Nat.le_refl _, by have := HK.out.2.1; rw [← HH.out] at this; first | exact this | (rw [HH.out] at this ⊢; exact this)⟩⟩
set_option maxHeartbeats 4000000 in
set_option maxRecDepth 100000 in
theorem tinsert_grow (w : World) (g n c i vb : Nat) (cur inner xcs : List Value) (hin : inner.length = n * 5) (hblk : w.heap[g]? = some (.cells cur.toArray 26 (0, 0))) (hnc : n ≤ c) (hcn : c < n + 1) (hcm : c ≤ 9223372036854775807) (hn6 : n ≤ 1000000) (hsz : cur.length = c * 5) (htk : cur.take (n * 5) = inner) (h1 : ∀ u ∈ inner, u.oneCell' = true)
    (hb : w.heap[vb]? = some (.cells xcs.toArray 26 (0, 0))) (hx5 : xcs.length = 5) (hx1 : ∀ u ∈ xcs, u.oneCell' = true) (hi : i < n) :
    Calls Tryd.prog 52 #[.slice (some ⟨g, 0, none⟩) n c, .int .i64 i, .slice (some ⟨vb, 0, none⟩) 1 1] w (Ins w 26 5 g n inner xcs i) := by
  obtain ⟨i0, hi0, hz0, hzs, hzb⟩ := info_parts (show (Tryd.prog.info? 26).map (fun i => (i.zero, i.size, i.bytes)) = some (some (.agg #[.int .i64 0, .bool false, .slice none 0 0, .slice none 0 0, .slice none 0 0]), 5, 88) by kernel_rfl)
  have hinc : ∀ j v, inner[j]? = some v → cur[j]? = some v := fun j v h => by
    rw [← htk, List.getElem?_take] at h
    split at h
    · exact h
    · cases h
  have hold : (Builtin.firstCells i0.size i (.slice (some ⟨g, 0, none⟩) i c)).run Tryd.prog w.drew = .ok (inner.take (i * 5)).toArray w.drew := by
    rw [hzs]
    exact run_firstCells_some w.drew 5 i ⟨g, 0, none⟩ i c (inner.take (i * 5)) (by rw [List.length_take, hin]; omega) (fun j v hj => by
      have hc := blk_cell hblk j
      have e : (⟨g, 0, none⟩ : Addr).add j = ⟨g, j, none⟩ := by simp [Addr.add]; exact fun h => h.symm
      show w.cell? _ = _
      rw [e, hc]
      rw [List.getElem?_take] at hj
      split at hj
      · simpa using hinc j v hj
      · cases hj)
  obtain ⟨k, hk⟩ : ∃ k : Nat, k = n + 1 - i := ⟨_, rfl⟩
  have hkI : (n : Int) + 1 - (i : Int) = (k : Int) := by omega
  have hik : i + k = n + 1 := by omega
  have hA := Lib.run_append_grow_zeros w 24 3 24 26 i0 _ .i64 .i64 Tryd.underlying24 Tryd.underlying3 hi0 hz0 (some ⟨g, 0, none⟩) i c (inner.take (i * 5)) hold k (by omega) (by omega) (by omega) (by omega) (by rw [hzb]; omega) (by rw [hzb, hik]; exact growslice_fits (by omega) (by omega))
  rw [hik, ← hkI] at hA
  have hGn : n + 1 ≤ grownCap w (n + 1) c 26 := grownCap_ge w _ _ _
  have hG63 : grownCap w (n + 1) c 26 ≤ 9223372036854775807 := by
    have := grownCap_le_maxLen w (n + 1) c 26 (by unfold maxLen; omega)
    unfold maxLen at this
    omega
  obtain ⟨G, hG⟩ : ∃ G, grownCap w (n + 1) c 26 = G := ⟨_, rfl⟩
  rw [hG] at hA hGn hG63
  obtain ⟨ROW, hROW⟩ : ∃ ROW : List Value, (inner.take (i * 5)) ++ (Builtin.zeroCells (.agg #[.int .i64 0, .bool false, .slice none 0 0, .slice none 0 0, .slice none 0 0] : Value).cells k).toList ++ (Builtin.zeroCells (.agg #[.int .i64 0, .bool false, .slice none 0 0, .slice none 0 0, .slice none 0 0] : Value).cells (G - (n + 1))).toList = ROW := ⟨_, rfl⟩
  have hRA : (inner.take (i * 5)).toArray ++ Builtin.zeroCells (.agg #[.int .i64 0, .bool false, .slice none 0 0, .slice none 0 0, .slice none 0 0] : Value).cells k ++ Builtin.zeroCells (.agg #[.int .i64 0, .bool false, .slice none 0 0, .slice none 0 0, .slice none 0 0] : Value).cells (G - (n + 1)) = ROW.toArray := by
    rw [← hROW]
    simp
  rw [hRA] at hA
  have hzc : (.agg #[.int .i64 0, .bool false, .slice none 0 0, .slice none 0 0, .slice none 0 0] : Value).cells.size = 5 := by kernel_rfl
  have hti : (inner.take (i * 5)).length = i * 5 := by rw [List.length_take, hin]; omega
  have hRl : ROW.length = G * 5 := by
    rw [← hROW, List.length_append, List.length_append, hti, Array.length_toList, Array.length_toList, size_zeroCells, size_zeroCells, hzc]
    omega
  have hRt : ROW.take (i * 5) = inner.take (i * 5) := by rw [← hROW, List.append_assoc, List.take_left' hti]
  clear hRA hROW hold hi0 hz0 hzs hzb hG hzc
  obtain ⟨W1, hW1⟩ : ∃ W, (w.alloc (.cells ROW.toArray 26)).drew = W := ⟨_, rfl⟩
  have hA : (Builtin.append_ #[24, 3] 24 #[.slice (some ⟨g, 0, none⟩) i c, .int .i64 ((n : Int) + 1 - (i : Int))]).run Tryd.prog w = .ok (.slice (some ⟨w.heap.size, 0, none⟩) (n + 1) G) W1 := by rw [← hW1]; exact hA
  have hbk1 : W1.heap[w.heap.size]? = some (.cells ROW.toArray 26 (0, 0)) := by rw [← hW1]; exact heap_alloc_new w _
  have hbl1 : Below w.heap.size w W1 := by rw [← hW1]; exact below_drew (below_alloc (Below.refl _ w) _)
  have hbg1 := (hbl1.block _ (blk_lt hblk)).trans hblk
  have hbv1 := (hbl1.block _ (blk_lt hb)).trans hb
  clear hW1
  have hgN : g ≠ w.heap.size := by have := blk_lt hblk; omega
  have hszi : (Tryd.prog.info? 26).map (·.size) = some 5 := by kernel_rfl
  have hB := run_copy_blk 5 W1 24 24 3 26 w.heap.size (i * 5) (n + 1 - i) (G - i) vb 0 1 1 xcs ROW xcs 26 26 Tryd.underlying24 hszi (by rw [hx5, show Nat.min 1 (n + 1 - i) = 1 from (show min 1 (n + 1 - i) = 1 by omega)]) hbk1 hbv1 (by omega) (fun j v hj => by rw [Nat.zero_add]; exact hj) hx1
  obtain ⟨W2, hW2⟩ : ∃ W, W1.setCells w.heap.size (i * 5) xcs = W := ⟨_, rfl⟩
  have hbk2 := blk_setCells xcs (i * 5) W1 ROW hbk1 (by omega)
  have hbg2 := (far_setCells hgN xcs (i * 5) W1).trans hbg1
  have hbl2 := below_setCells (Nat.le_refl _) xcs (i * 5) W1 hbl1
  rw [hW2] at hB hbk2 hbg2 hbl2
  clear hW2
  have hdl : (inner.drop (i * 5)).length = (n - i) * 5 := by rw [List.length_drop, hin]; omega
  have hpl := putL_len (cur := ROW) (vs := xcs) (o := i * 5) (by omega)
  have hC := run_copy_blk 5 W2.drew 24 24 3 26 w.heap.size ((i + 1) * 5) (n - i) (G - (i + 1)) g (i * 5) (n - i) (c - i) (inner.drop (i * 5)) _ cur 26 26 Tryd.underlying24 hszi (by rw [hdl, show Nat.min (n - i) (n - i) = n - i from (show min (n - i) (n - i) = n - i by omega)]) hbk2 hbg2 (by rw [hdl, hpl]; omega) (fun j v hj => hinc _ _ (by rw [List.getElem?_drop] at hj; exact hj)) (fun v hv => h1 v (List.mem_of_mem_drop hv))
  have hbk3 := blk_setCells (inner.drop (i * 5)) ((i + 1) * 5) W2.drew _ hbk2 (by rw [hdl, hpl]; omega)
  have hbl3 := below_setCells (Nat.le_refl _) (inner.drop (i * 5)) ((i + 1) * 5) W2.drew (below_drew hbl2)
  have hl3 := putL_len (cur := putL ROW (i * 5) xcs) (vs := inner.drop (i * 5)) (o := (i + 1) * 5) (by rw [hdl, hpl]; omega)
  obtain ⟨W3, hW3⟩ : ∃ W, W2.drew.setCells w.heap.size ((i + 1) * 5) (inner.drop (i * 5)) = W := ⟨_, rfl⟩
  rw [hW3] at hC hbk3 hbl3
  clear hW3
  have hT := ins_grow (row := ROW) (inner := inner) (xcs := xcs) (A := i * 5) (L := n * 5) (s := 5) hRt hin (by omega) (by omega) hx5
  rw [show i * 5 + 5 = (i + 1) * 5 by omega, show n * 5 + 5 = (n + 1) * 5 by omega] at hT
  have HT := Aside0.mk hT
  have HK := Aside0.mk (And.intro hbk3 (And.intro hbl3 (hl3.trans (hpl.trans hRl))))
  have HCP := Aside0.mk hC
  have hw1 : IntKind.i64.wrap ((i : Int) + 1) = (i : Int) + 1 := by rw [IntKind.wrap_i64]; omega
  have hb1 : (0 : Int) ≤ (i : Int) + 1 := by omega
  have hb3 : (i : Int) ≤ (n : Int) + 1 := by omega
  have hb4 : (i : Int) + 1 ≤ (n : Int) + 1 := by omega
  have htn : ((i : Int) + 1).toNat = i + 1 := by omega
  have hc4 : ¬ (G = i) := by omega
  have hc5 : ¬ (G = i + 1) := by omega
  have hc6 : ¬ (c = i) := by omega
  have hcc : (c : Int) < (n : Int) + 1 := by omega
  obtain ⟨H, hH⟩ : ∃ q, w.heap.size = q := ⟨_, rfl⟩
  rw [hH] at HCP HK hB hA
  have HH := Aside0.mk hH
  clear hH hT hbk3 hbl3 hl3 hC hbk2 hbg2 hbl2 hbk1 hbl1 hbg1 hbv1 hpl hdl hRt hRl hinc hti hgN h1 hx1 htk hblk hb hsz hin hkI hik hk
  have HA := Aside0.mk hA
  have hin9 : i ≤ n := by omega
  clear hA
  go_enter Tryd.func52, Tryd.ntmps52
  go_wp2_with (at_builtin; refine Lib.wpList_append_run _ rfl _ _ _ _ rfl _ _ rfl rfl _ _ HA.out ?_)
  go_region_law (refine step_copy_runI rfl _ _ 24 24 rfl (.slice (some ⟨H, (i + 1) * 5, none⟩) (n - i) (G - (i + 1))) (.slice (some ⟨g, i * 5, none⟩) (n - i) (c - i)) (by simp [Act.eval, Act.put]) (by simp [Act.eval, Act.put]) HCP.out ?_)
  go_wp2_with fail
  exact bodyPost_ret (v := .slice (some ⟨H, 0, none⟩) (n + 1) G) (by simp [results, Tryd.results52, go_sem]) rfl ⟨H, G, _, rfl, HK.out.1, hGn, hG63, HK.out.2.2, (by first | exact HT.out | simpa only [Nat.mul_one] using HT.out), .inr ⟨by rw [HH.out]; exact Nat.le_refl _, by have := HK.out.2.1; rw [← HH.out] at this; first | exact this | (rw [HH.out] at this ⊢; exact this)⟩⟩
theorem sinsert_any (base : Nat) (w : World) (v : Value) (xs : List ByteArray) (x : ByteArray) (i vb : Nat) (hB : base ≤ w.heap.size) (hR : Kd.string.R 9 w base (fun _ => True) v xs)
    (hb : w.heap[vb]? = some (.cells ([.string x] : List Value).toArray 9 (0, 0)))  (hne : some vb ≠ v.ownBlock) (hi : i ≤ xs.length) (hl : xs.length ≤ 1000000) :
    Calls Tryd.prog 51 #[v, .int .i64 i, .slice (some ⟨vb, 0, none⟩) 1 1] w (sinsertP base w v (xs.take i ++ x :: xs.drop i)) := by
  by_cases he : i = xs.length
  · subst he
    rw [List.take_length, List.drop_length]
    exact sinsert_end base w v xs x vb hB hR hb  hne hl
  have hlt : i < xs.length := by omega
  obtain ⟨-, inner, ⟨hin, hor⟩, hrep⟩ := hR
  rcases hor with ⟨rfl, h0⟩ | ⟨g, c, cur, rfl, hg, hblk, hnc, hcm, hsz, htk⟩
  · omega
  have hcm : c ≤ 9223372036854775807 := by unfold maxLen at hcm; exact hcm
  have hvg : vb ≠ g := fun e => hne (by rw [e]; rfl)
  have hin : inner.length = xs.length * 1 := hin
  have hsz : cur.size = c * 1 := hsz
  have htk : cur.toList.take (xs.length * 1) = inner := htk
  have hblk2 : w.heap[g]? = some (.cells cur.toList.toArray 9 (0, 0)) := by simpa using hblk
  have h1 := reps_cells1 hrep (fun p c h u hu => by have h9 : c = [.string p] := h; rw [h9, List.mem_singleton] at hu; subst hu; rfl) (by decide)
  have key : Calls Tryd.prog 51 #[.slice (some ⟨g, 0, none⟩) xs.length c, .int .i64 i, .slice (some ⟨vb, 0, none⟩) 1 1] w (Ins w 9 1 g xs.length inner ([.string x]) i) := by
    by_cases hroom : xs.length + 1 ≤ c
    · exact sinsert_room w g xs.length c i vb cur.toList inner ([.string x]) hin hblk2 hroom hcm (by rw [Array.length_toList]; exact hsz) htk h1 hb rfl (fun u hu => by rw [List.mem_singleton] at hu; subst hu; rfl) hvg hlt
    · exact sinsert_grow w g xs.length c i vb cur.toList inner ([.string x]) hin hblk2 hnc (by omega) hcm hl (by rw [Array.length_toList]; exact hsz) htk h1 hb rfl (fun u hu => by rw [List.mem_singleton] at hu; subst hu; rfl) hlt
  refine key.mono ?_
  rintro e w' ⟨g2, c2, fin, rfl, hbl, hn2, hc2, hfl, hft, hor⟩
  have hlen : (xs.take i ++ x :: xs.drop i).length = xs.length + 1 := by rw [List.length_append, List.length_cons, List.length_take, List.length_drop]; omega
  have hlen2 : (inner.take (i * 1) ++ ([.string x] : List Value) ++ inner.drop (i * 1)).length = (xs.length + 1) * 1 := by
    rw [← hft, List.length_take, hfl]
    omega
  refine ⟨_, rfl, ⟨fun _ _ => trivial, inner.take (i * 1) ++ [.string x] ++ inner.drop (i * 1), ⟨by rw [hlen]; exact hlen2, .inr ⟨g2, c2, fin.toArray, by rw [hlen], ?_, hbl, by rw [hlen]; exact hn2, by unfold maxLen; exact hc2, by show fin.toArray.size = c2 * 1; rw [List.size_toArray]; exact hfl, by rw [hlen]; show fin.toArray.toList.take ((xs.length + 1) * 1) = _; rw [List.toList_toArray]; exact hft⟩⟩, ?_⟩, ?_, ?_, ?_⟩
  · rcases hor with ⟨h, -⟩ | ⟨h, -⟩
    · rw [h]; exact hg
    · exact Nat.le_trans hB h
  · exact Reps.insert (hrep.imp_ (fun p c h => h)) rfl rfl hi
  · rcases hor with ⟨-, h⟩ | ⟨-, h⟩
    · exact ⟨h.os, h.tape, h.output, h.size, fun k hk => h.block k (Nat.lt_of_lt_of_le hk hB) (fun e => by injection e with e; omega)⟩
    · exact h.mono hB
  · rcases hor with ⟨-, h⟩ | ⟨-, h⟩
    · exact h
    · exact ⟨h.os, h.tape, h.output, h.size, fun k hk _ => h.block k hk⟩
  · rcases hor with ⟨h, -⟩ | ⟨h, -⟩
    · exact .inl (by rw [h]; rfl)
    · exact .inr ⟨g2, rfl, h⟩
theorem tinsert_any (base : Nat) (w : World) (v : Value) (xs : List (List Value)) (x : (List Value)) (i vb : Nat) (hB : base ≤ w.heap.size) (hR : kraw.R 26 w base (fun _ => True) v xs)
    (hb : w.heap[vb]? = some (.cells (x : List Value).toArray 26 (0, 0))) (hx5 : x.length = 5) (hx1 : ∀ u ∈ x, u.oneCell' = true) (hne : some vb ≠ v.ownBlock) (hi : i ≤ xs.length) (hl : xs.length ≤ 1000000) :
    Calls Tryd.prog 52 #[v, .int .i64 i, .slice (some ⟨vb, 0, none⟩) 1 1] w (tinsertP base w v (xs.take i ++ x :: xs.drop i)) := by
  by_cases he : i = xs.length
  · subst he
    rw [List.take_length, List.drop_length]
    exact tinsert_end base w v xs x vb hB hR hb hx5 hx1 hne hl
  have hlt : i < xs.length := by omega
  obtain ⟨-, inner, ⟨hin, hor⟩, hrep⟩ := hR
  rcases hor with ⟨rfl, h0⟩ | ⟨g, c, cur, rfl, hg, hblk, hnc, hcm, hsz, htk⟩
  · omega
  have hcm : c ≤ 9223372036854775807 := by unfold maxLen at hcm; exact hcm
  have hvg : vb ≠ g := fun e => hne (by rw [e]; rfl)
  have hin : inner.length = xs.length * 5 := hin
  have hsz : cur.size = c * 5 := hsz
  have htk : cur.toList.take (xs.length * 5) = inner := htk
  have hblk2 : w.heap[g]? = some (.cells cur.toList.toArray 26 (0, 0)) := by simpa using hblk
  have h1 := reps_cells1 hrep (fun p c h u hu => by have h9 : c = p := h.1; rw [h9] at hu; exact h.2.2 u hu) (by decide)
  have key : Calls Tryd.prog 52 #[.slice (some ⟨g, 0, none⟩) xs.length c, .int .i64 i, .slice (some ⟨vb, 0, none⟩) 1 1] w (Ins w 26 5 g xs.length inner (x) i) := by
    by_cases hroom : xs.length + 1 ≤ c
    · exact tinsert_room w g xs.length c i vb cur.toList inner (x) hin hblk2 hroom hcm (by rw [Array.length_toList]; exact hsz) htk h1 hb hx5 hx1 hvg hlt
    · exact tinsert_grow w g xs.length c i vb cur.toList inner (x) hin hblk2 hnc (by omega) hcm hl (by rw [Array.length_toList]; exact hsz) htk h1 hb hx5 hx1 hlt
  refine key.mono ?_
  rintro e w' ⟨g2, c2, fin, rfl, hbl, hn2, hc2, hfl, hft, hor⟩
  have hlen : (xs.take i ++ x :: xs.drop i).length = xs.length + 1 := by rw [List.length_append, List.length_cons, List.length_take, List.length_drop]; omega
  have hlen2 : (inner.take (i * 5) ++ (x : List Value) ++ inner.drop (i * 5)).length = (xs.length + 1) * 5 := by
    rw [← hft, List.length_take, hfl]
    omega
  refine ⟨_, rfl, ⟨fun _ _ => trivial, inner.take (i * 5) ++ x ++ inner.drop (i * 5), ⟨by rw [hlen]; exact hlen2, .inr ⟨g2, c2, fin.toArray, by rw [hlen], ?_, hbl, by rw [hlen]; exact hn2, by unfold maxLen; exact hc2, by show fin.toArray.size = c2 * 5; rw [List.size_toArray]; exact hfl, by rw [hlen]; show fin.toArray.toList.take ((xs.length + 1) * 5) = _; rw [List.toList_toArray]; exact hft⟩⟩, ?_⟩, ?_, ?_, ?_⟩
  · rcases hor with ⟨h, -⟩ | ⟨h, -⟩
    · rw [h]; exact hg
    · exact Nat.le_trans hB h
  · exact Reps.insert (hrep.imp_ (fun p c h => h)) ⟨rfl, hx5, hx1⟩ hx5 hi
  · rcases hor with ⟨-, h⟩ | ⟨-, h⟩
    · exact ⟨h.os, h.tape, h.output, h.size, fun k hk => h.block k (Nat.lt_of_lt_of_le hk hB) (fun e => by injection e with e; omega)⟩
    · exact h.mono hB
  · rcases hor with ⟨-, h⟩ | ⟨-, h⟩
    · exact h
    · exact ⟨h.os, h.tape, h.output, h.size, fun k hk _ => h.block k hk⟩
  · rcases hor with ⟨h, -⟩ | ⟨h, -⟩
    · exact .inl (by rw [h]; rfl)
    · exact .inr ⟨g2, rfl, h⟩
end Go.Proofs.YtfnofjcdaghniaaDoor.Tree
/- names in order: where BinarySearch finds one. Own work. -/
namespace Go.Proofs.YtfnofjcdaghniaaDoor.Tree
set_option linter.unusedVariables false
set_option linter.unusedSimpArgs false
open Go.RowKit Go.Proofs.YtfnofjcdaghniaaDoor.PL Go.Proofs.YtfnofjcdaghniaaDoor.Mt Go.Proofs.YtfnofjcdaghniaaDoorW.PrintWords Go.Proofs.YtfnofjcdaghniaaDoorW.PrintLast Go.Proofs.YtfnofjcdaghniaaDoorW.PrintMore
theorem bl_irrefl : ∀ x : List UInt8, Op.bytesLess x x = false
  | [] => rfl
  | a :: x => by simp [Op.bytesLess, bl_irrefl x]
theorem bl_trans : ∀ {x y z : List UInt8}, Op.bytesLess x y = true → Op.bytesLess y z = true → Op.bytesLess x z = true
  | [], [], _, h, _ => by simp [Op.bytesLess] at h
  | [], _ :: _, [], _, h => by simp [Op.bytesLess] at h
  | [], _ :: _, _ :: _, _, _ => by simp [Op.bytesLess]
  | _ :: _, [], _, h, _ => by simp [Op.bytesLess] at h
  | _ :: _, _ :: _, [], _, h => by simp [Op.bytesLess] at h
  | a :: x, b :: y, c :: z, h1, h2 => by
    simp only [Op.bytesLess, Bool.or_eq_true, Bool.and_eq_true, decide_eq_true_eq, beq_iff_eq] at h1 h2 ⊢
    rcases h1 with h1 | ⟨h1, h1'⟩
    · rcases h2 with h2 | ⟨h2, h2'⟩
      · exact .inl (UInt8.lt_trans h1 h2)
      · subst h2; exact .inl h1
    · subst h1
      rcases h2 with h2 | ⟨h2, h2'⟩
      · exact .inl h2
      · exact .inr ⟨h2, bl_trans h1' h2'⟩
theorem bl_tri : ∀ {x y : List UInt8}, Op.bytesLess x y = false → Op.bytesLess y x = false → x = y
  | [], [], _, _ => rfl
  | [], _ :: _, h, _ => by simp [Op.bytesLess] at h
  | _ :: _, [], _, h => by simp [Op.bytesLess] at h
  | a :: x, b :: y, h1, h2 => by
    simp only [Op.bytesLess, Bool.or_eq_false_iff, Bool.and_eq_false_iff, decide_eq_false_iff_not, beq_eq_false_iff_ne] at h1 h2
    have hab : a = b := by
      rcases UInt8.lt_or_lt_of_ne (a := a) (b := b) |> fun f => Classical.em (a = b) with h | h
      · exact h
      · rcases UInt8.lt_or_lt_of_ne h with h3 | h3
        · exact absurd h3 h1.1
        · exact absurd h3 h2.1
    subst hab
    rcases h1.2 with h | h
    · exact absurd rfl h
    · rcases h2.2 with h' | h'
      · exact absurd rfl h'
      · rw [bl_tri h h']
/-- a name ahead of another one -/
def ltB (a b : ByteArray) : Bool := Op.bytesLess a.toList b.toList
theorem ltB_irrefl (a : ByteArray) : ltB a a = false := bl_irrefl _
theorem ltB_trans {a b c : ByteArray} (h : ltB a b = true) (k : ltB b c = true) : ltB a c = true := bl_trans h k
theorem ltB_tri {a b : ByteArray} (h : ltB a b = false) (k : ltB b a = false) : a = b := ba_eq.1 (bl_tri h k)
theorem ltB_asymm {a b : ByteArray} (h : ltB a b = true) : ltB b a = false := by
  cases hk : ltB b a with
  | false => rfl
  | true => exact absurd (ltB_trans h hk) (by rw [ltB_irrefl]; simp)
/-- names in order, each once -/
def Srt (l : List ByteArray) : Prop := l.Pairwise (fun a b => ltB a b = true)
theorem Srt.lt {l : List ByteArray} (h : Srt l) {i j : Nat} (hij : i < j) (hj : j < l.length) : ltB l[i] l[j] = true := List.pairwise_iff_getElem.1 h i j (by omega) hj hij
/-- how many names stand ahead of one -/
def posS (l : List ByteArray) (n : ByteArray) : Nat := (l.takeWhile (fun s => ltB s n)).length
def hasS (l : List ByteArray) (n : ByteArray) : Bool := decide (l[posS l n]? = some n)
theorem posS_le (l : List ByteArray) (n : ByteArray) : posS l n ≤ l.length := by
  unfold posS
  exact (List.takeWhile_sublist _).length_le
theorem posS_unique {l : List ByteArray} {n : ByteArray} {k : Nat} (hk : k ≤ l.length) (h1 : ∀ j (h : j < l.length), j < k → ltB l[j] n = true) (h2 : ∀ (h : k < l.length), ltB l[k] n = false) : posS l n = k := by
  unfold posS
  have e : l = l.take k ++ l.drop k := (List.take_append_drop k l).symm
  have h3 : ∀ s ∈ l.take k, ltB s n = true := by
    intro s hs
    obtain ⟨j, hj, rfl⟩ := List.getElem_of_mem hs
    rw [List.length_take] at hj
    rw [List.getElem_take]
    exact h1 j (by omega) (by omega)
  have h4 : (l.drop k).takeWhile (fun s => ltB s n) = [] := by
    rcases Nat.lt_or_ge k l.length with h | h
    · rw [List.drop_eq_getElem_cons h, List.takeWhile_cons, if_neg (by rw [h2 h]; simp)]
    · rw [List.drop_eq_nil_of_le h]; rfl
  rw [e, List.takeWhile_append_of_pos h3, h4, List.append_nil, List.length_take]
  omega
theorem bs_l {l : List ByteArray} {n : ByteArray} (hs : Srt l) (hl : l.length ≤ 1000000) : ∀ (d lo hi : Nat), hi - lo ≤ d → lo ≤ hi → hi ≤ l.length → (∀ j (h : j < l.length), j < lo → ltB l[j] n = true) → (∀ j (h : j < l.length), hi ≤ j → ltB l[j] n = false) →
    ∀ k, d + 1 ≤ k → slices_BinarySearch_string_string.l0 k l n (l.length : Int) (lo : Int) (hi : Int) = some ((posS l n : Int), hasS l n) := by
  intro d
  induction d with
  | zero =>
    intro lo hi hd h1 h2 h3 h4 k hk
    obtain ⟨k, rfl⟩ : ∃ q, k = q + 1 := ⟨k - 1, by omega⟩
    have he : lo = hi := by omega
    subst he
    have hp : posS l n = lo := posS_unique h2 h3 (fun h => h4 lo h (Nat.le_refl _))
    simp only [slices_BinarySearch_string_string.l0]
    rw [if_neg (by omega)]
    by_cases hlt : lo < l.length
    · rw [if_pos (by omega), if_pos (by omega), if_pos (by omega)]
      have hr : rdOf ByteArray.empty l (lo : Int) = l[lo] := by rw [rdOf_nat, List.getD_eq_getElem?_getD, List.getElem?_eq_getElem hlt]; rfl
      rw [hr]
      by_cases hq : l[lo].toList = n.toList
      · rw [if_pos hq, hp]
        have h9 : hasS l n = true := by unfold hasS; rw [hp, List.getElem?_eq_getElem hlt, ba_eq.1 hq]; simp
        rw [h9]
      · rw [if_neg hq]
        have h9 : hasS l n = false := by
          unfold hasS
          rw [hp, List.getElem?_eq_getElem hlt]
          exact decide_eq_false (fun h => hq (by rw [Option.some.inj h]))
        rw [h9, hp]
        simp [slices_isNaN_string.f]
    · rw [if_neg (by omega), hp]
      have h9 : hasS l n = false := by
        unfold hasS
        rw [hp, List.getElem?_eq_none (by omega)]
        simp
      rw [h9]
  | succ d ih =>
    intro lo hi hd h1 h2 h3 h4 k hk
    by_cases hlh : lo < hi
    · obtain ⟨k, rfl⟩ : ∃ q, k = q + 1 := ⟨k - 1, by omega⟩
      simp only [slices_BinarySearch_string_string.l0]
      obtain ⟨m, hm⟩ : ∃ m : Nat, m = (lo + hi) / 2 := ⟨_, rfl⟩
      have hw : wrap64 ((IntKind.u64.wrap (wrap64 ((lo : Int) + (hi : Int)))) / 2) = (m : Int) := by
        rw [w64 (n := (lo : Int) + (hi : Int)) (by omega) (by omega), wu64 (by omega) (by omega), w64 (by omega) (by omega)]
        omega
      have hml : m < l.length := by omega
      have hr : rdOf ByteArray.empty l (m : Int) = l[m] := by rw [rdOf_nat, List.getD_eq_getElem?_getD, List.getElem?_eq_getElem hml]; rfl
      rw [hw, if_pos (by omega), if_pos (by omega), if_pos (by omega), hr]
      have hc : cmp_Less_string.f l[m] n = some (ltB l[m] n) := by
        simp [cmp_Less_string.f, cmp_isNaN_string.f, ltB]
      rw [hc, Option.bind_some]
      cases hb : ltB l[m] n with
      | true =>
        rw [if_pos rfl, nx (by omega)]
        refine ih (m + 1) hi (by omega) (by omega) h2 (fun j hj hjm => ?_) h4 k (by omega)
        rcases Nat.lt_or_eq_of_le (Nat.lt_succ_iff.1 hjm) with h | h
        · exact ltB_trans (hs.lt h hml) hb
        · subst h; exact hb
      | false =>
        rw [if_neg (by simp)]
        refine ih lo m (by omega) (by omega) (by omega) h3 (fun j hj hjm => ?_) k (by omega)
        rcases Nat.lt_or_eq_of_le hjm with h | h
        · cases hq : ltB l[j] n with
          | false => rfl
          | true => exact absurd (ltB_trans (hs.lt h hj) hq) (by rw [hb]; simp)
        · subst h; exact hb
    · exact ih lo hi (by omega) h1 h2 h3 h4 k (by omega)
theorem bs_any {l : List ByteArray} {n : ByteArray} (A : Option Addr) (c : Nat) (w : World) (hs : Srt l) (hl : l.length ≤ 1000000) (hC : Kd.string.C w A l.length l) (hc : l.length ≤ c) :
    Calls Tryd.prog 38 #[.slice A l.length c, .string n] w fun e w' => e = .returned (.tuple #[.int .i64 (posS l n : Int), .bool (hasS l n)]) ∧ Drawn0 w w' :=
  slices_BinarySearch_string_string.calls (l.length + 1) A c l n _ _ w hC hc (bs_l hs hl l.length 0 l.length (by omega) (by omega) (Nat.le_refl _) (fun j h hj => absurd hj (by omega)) (fun j h hj => absurd h (by omega)) _ (Nat.le_refl _))
end Go.Proofs.YtfnofjcdaghniaaDoor.Tree
