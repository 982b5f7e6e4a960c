/- What comes in, read as data, is told in the print's own words: numbers, truths, texts, rows of these. Own work. -/
import Derived.Test.YtfnofjcdaghniaaDoorWMore
import Derived.Test.YtfnofjcdaghniaaDoorWSized
import Derived.OpenShut
import Derived.DataElems
namespace Go.Proofs.YtfnofjcdaghniaaDoor.Open
open Go.RowKit Go.ChangeShapes Go.WideShapes Go.Proofs.YtfnofjcdaghniaaDoorW.PrintWords

/-- what the reading of a type tells -/
def Op {H : Type} (enc : TypeId × Value → H) (P : Program) (t : TypeId) {α : Type} (d : Kd α) (good : α → Prop) (fuel : Nat) : Prop :=
  ∀ (W : World) (base : Nat) (spare : Nat → Bool) (held : Bool) (cs : List Value) (x : DataW H × List MemPlace),
    DataW.trod enc P W base spare held fuel t cs = some x → (x.1.weights P t).all (· ≤ reachBytes) = true → ∃ a : α, d.K W a cs ∧ good a
section
variable {H : Type} {enc : TypeId × Value → H} {P : Program} {t : TypeId}
theorem op_int {k : IntKind} (ht : P.underlying t = some (.int k)) (fuel : Nat) : Op enc P t (Kd.int k) (fun n => (Lit.int k n).wf = true) fuel := by
  intro W base spare held cs x h _
  obtain ⟨n, rfl, rfl, hw⟩ := DataW.trod_int ht h
  exact ⟨n, rfl, hw⟩
theorem op_bool (ht : P.underlying t = some .bool) (fuel : Nat) : Op enc P t Kd.bool (fun _ => True) fuel := by
  intro W base spare held cs x h _
  obtain ⟨b, rfl, rfl⟩ := DataW.trod_bool ht h
  exact ⟨b, rfl, trivial⟩
theorem op_string (ht : P.underlying t = some .string) (fuel : Nat) : Op enc P t Kd.string (fun s => s.size ≤ 140737488351232) fuel := by
  intro W base spare held cs x h hw
  obtain ⟨s, rfl, rfl, _⟩ := DataW.trod_string ht h
  refine ⟨s, rfl, ?_⟩
  have h2 : s.data.toList.length ≤ reachBytes := by simpa [DataW.weights] using hw
  rw [Array.length_toList] at h2
  exact h2
theorem pick {α : Type} {n : Nat} {Q : Nat → α → Prop} (h : ∀ i, i < n → ∃ a, Q i a) : ∃ l : List α, l.length = n ∧ ∀ i p, l[i]? = some p → Q i p := by
  refine ⟨List.ofFn (fun i : Fin n => Classical.choose (h i.1 i.2)), by simp, fun i p hp => ?_⟩
  obtain ⟨hi, he⟩ := List.getElem?_eq_some_iff.1 hp
  have hn : i < n := by simpa using hi
  rw [← he]
  simp only [List.getElem_ofFn]
  exact Classical.choose_spec (h i hn)
theorem weights_all {e : TypeId} {l : List (DataW H)} (h : (DataW.weightsAll P e l).all (· ≤ reachBytes) = true) : ∀ d ∈ l, (d.weights P e).all (· ≤ reachBytes) = true := by
  induction l with
  | nil => intro d hd; cases hd
  | cons y l ih =>
    simp only [DataW.weightsAll, List.all_append, Bool.and_eq_true] at h
    intro d hd
    rcases List.mem_cons.1 hd with rfl | hd
    · exact h.1
    · exact ih h.2 d hd
theorem op_slice {α : Type} {d : Kd α} {good : α → Prop} {e : TypeId} {B : Nat} (ht : P.underlying t = some (.slice e)) (hc : P.cellsOf e = d.sz) (hB : P.bytesOf e = B) (fuel : Nat) (ho : ∀ n, n < fuel → Op enc P e d good n) :
    Op enc P t (Kd.slice e d) (fun l => l.length ≤ maxLen ∧ l.length * B ≤ 140737488351232 ∧ ∀ a ∈ l, good a) fuel := by
  intro W base spare held cs x h hw
  rcases DataW.trod_slice ht h with ⟨rfl, rfl⟩ | ⟨a, len, cap, elems, rest, n, rfl, rfl, rfl, hb, hl, hm, hlen, hel, _, _⟩
  · exact ⟨[], ⟨none, 0, rfl, Nat.le_refl _, Kd.C_nil d W⟩, Nat.zero_le _, by simp, fun _ h => by cases h⟩
  · have hw2 : ((elems.map (·.1)).length + (rest.map (·.1)).length) * P.bytesOf e ≤ reachBytes ∧ (DataW.weightsAll P e (elems.map (·.1))).all (· ≤ reachBytes) = true := by
      simp only [DataW.weights, ht, List.all_cons, List.all_append, Bool.and_eq_true, decide_eq_true_eq] at hw
      exact ⟨hw.1, hw.2.1⟩
    have each : ∀ i, i < len → ∃ p, ∃ c, W.cells? base (a.add (i * P.cellsOf e)) (P.cellsOf e) = some c ∧ d.K W p c ∧ good p := by
      intro i hi
      have h1 := hel i hi
      have hie : i < elems.length := by omega
      rw [List.getElem?_eq_getElem hie, Option.bind_eq_some_iff] at h1
      obtain ⟨c, h2, h3⟩ := h1
      obtain ⟨p, hp, hg⟩ := ho n (Nat.lt_succ_self _) W base spare held c _ h3 (weights_all hw2.2 _ (List.mem_map.2 ⟨_, List.getElem_mem hie, rfl⟩))
      exact ⟨p, c, h2, hp, hg⟩
    obtain ⟨l, hll, hq⟩ := pick each
    have hm2 : len ≤ 9223372036854775807 := by have := hm; unfold maxLen at this; omega
    refine ⟨l, ⟨some a, cap, by rw [hll], by omega, ?_⟩, by omega, ?_, fun p hp => ?_⟩
    · refine ⟨rfl, by omega, fun _ => ⟨a, rfl, fun j p hj => ?_⟩⟩
      obtain ⟨c, h1, h2, _⟩ := hq j p hj
      refine ⟨c, d.K_len h2, h2, fun i u hu => ?_⟩
      have h3 := World.cells?_some h1
      have hi : i < c.length := (List.getElem?_eq_some_iff.1 hu).1
      rw [hc] at h3
      have h4 := h3.2.2 i (by have := d.K_len h2; omega)
      rw [Addr.add_add] at h4
      rw [h4, hu]
    · have h1 := hw2.1
      rw [hB] at h1
      have h2 : l.length * B ≤ ((elems.map (·.1)).length + (rest.map (·.1)).length) * B := Nat.mul_le_mul_right _ (by rw [List.length_map, hlen, hll]; omega)
      exact Nat.le_trans h2 h1
    · obtain ⟨i, hi⟩ := List.getElem?_of_mem hp
      obtain ⟨c, _, _, h3⟩ := hq i p hi
      exact h3
/-- an argument, by its place among all -/
theorem arg {α : Type} {d : Kd α} {good : α → Prop} {W : World} {base : Nat} {spare : Nat → Bool} {held : Bool} {v : Value} {x : DataW H} {ps : List MemPlace} {ts : List TypeId} {ds : List (DataW H)} {j : Nat}
    (ho : ∀ n, Op enc P t d good n) (hsz : (DataW.weightsEach P ts ds).all (· ≤ reachBytes) = true) (hj : ts[j]? = some t) (hd : ds[j]? = some x) (h : DataW.Trod enc P W base spare held t v x ps) : ∃ a : α, d.K W a v.cells.toList ∧ good a := by
  obtain ⟨fuel, hf⟩ := h
  refine ho fuel W base spare held _ _ hf ?_
  rw [List.all_eq_true] at hsz ⊢
  exact fun n hn => hsz n (DataW.weights_mem_each hj hd n hn)
/-- a slice among the arguments -/
theorem arg_slice {α : Type} {d : Kd α} {good : α → Prop} {e : TypeId} {B : Nat} {W : World} {base : Nat} {spare : Nat → Bool} {held : Bool} {A : Option Addr} {len cap : Nat} {x : DataW H} {ps : List MemPlace} {ts : List TypeId} {ds : List (DataW H)} {j : Nat}
    (ht : P.underlying t = some (.slice e)) (hc : P.cellsOf e = d.sz) (hB : P.bytesOf e = B) (ho : ∀ n, Op enc P e d good n) (hsz : (DataW.weightsEach P ts ds).all (· ≤ reachBytes) = true) (hj : ts[j]? = some t) (hd : ds[j]? = some x)
    (h : DataW.Trod enc P W base spare held t (.slice A len cap) x ps) : ∃ l : List α, len = l.length ∧ l.length ≤ cap ∧ d.C W A l.length l ∧ l.length ≤ maxLen ∧ l.length * B ≤ 140737488351232 ∧ ∀ a ∈ l, good a := by
  obtain ⟨l, ⟨A2, c2, hv, hl, hC⟩, h1, h2, h3⟩ := arg (fun n => op_slice ht hc hB n (fun m _ => ho m)) hsz hj hd h
  simp [Value.cells] at hv
  obtain ⟨rfl, rfl, rfl⟩ := hv
  exact ⟨l, rfl, hl, hC, h1, h2, h3⟩
end
end Go.Proofs.YtfnofjcdaghniaaDoor.Open
