/- A tree (type 26) that comes in, read as data, told in the print's words (S26, k26 of text Mn0). Own work. -/
import Derived.Test.YtfnofjcdaghniaaDoorOpen
import Derived.Test.YtfnofjcdaghniaaDoorMt0
namespace Go.Proofs.YtfnofjcdaghniaaDoor.Tree
set_option linter.unusedVariables false
set_option linter.unusedSimpArgs false
open Go.RowKit Go.ChangeShapes Go.WideShapes Go.Proofs.YtfnofjcdaghniaaDoor.Open Go.Proofs.YtfnofjcdaghniaaDoor.Mt Go.Proofs.YtfnofjcdaghniaaDoorW.PrintWords
/-- what is known of a tree that came in -/
def GT : Nat → S26 → Prop
  | 0, _ => False
  | n + 1, t => (Lit.int .i64 t.f0).wf = true ∧ (t.f2.length ≤ maxLen ∧ t.f2.length * 1 ≤ 140737488351232 ∧ ∀ x ∈ t.f2, (Lit.int .u8 x).wf = true) ∧
      (t.f3.length ≤ maxLen ∧ t.f3.length * 16 ≤ 140737488351232 ∧ ∀ s ∈ t.f3, s.size ≤ 140737488351232) ∧ (t.f4.length ≤ maxLen ∧ t.f4.length * 88 ≤ 140737488351232 ∧ ∀ a ∈ t.f4, GT n a)
theorem list5 {α : Type} {l : List α} (h : l.length = 5) : ∃ a b c d e, l = [a, b, c, d, e] := by
  match l, h with
  | [a, b, c, d, e], _ => exact ⟨a, b, c, d, e, rfl⟩
theorem op_tree {H : Type} {enc : TypeId × Value → H} {P : Program} {tT tI tB tD tN tK eD eN : TypeId} {f0 f1 f2 f3 f4 : Field}
    (ht : P.underlying tT = some (.struct #[f0, f1, f2, f3, f4])) (hty : (f0.type, f1.type, f2.type, f3.type, f4.type) = (tI, tB, tD, tN, tK)) (hof : (f0.offset, f1.offset, f2.offset, f3.offset, f4.offset) = (0, 1, 2, 3, 4))
    (hce : (P.cellsOf tI, P.cellsOf tB, P.cellsOf tD, P.cellsOf tN, P.cellsOf tK) = (1, 1, 1, 1, 1)) (hcT : P.cellsOf tT = 5) (hcD : P.cellsOf eD = 1) (hcN : P.cellsOf eN = 1) (hb : (P.bytesOf eD, P.bytesOf eN, P.bytesOf tT) = (1, 16, 88))
    (hI : P.underlying tI = some (.int .i64)) (hB : P.underlying tB = some .bool) (hD : P.underlying tD = some (.slice eD)) (heD : P.underlying eD = some (.int .u8)) (hNm : P.underlying tN = some (.slice eN)) (heN : P.underlying eN = some .string) (hK : P.underlying tK = some (.slice tT)) :
    ∀ (fuel N : Nat), fuel ≤ N → Open.Op enc P tT k26 (GT N) fuel := by
  simp only [Prod.mk.injEq] at hty hof hce hb
  obtain ⟨y0, y1, y2, y3, y4⟩ := hty
  obtain ⟨o0, o1, o2, o3, o4⟩ := hof
  obtain ⟨e0, e1, e2, e3, e4⟩ := hce
  obtain ⟨b1, b2, b3⟩ := hb
  subst y0 y1 y2 y3 y4
  intro fuel
  induction fuel using Nat.strongRecOn with
  | ind fuel ih =>
    intro N hN W base spare held cs x h hw
    obtain ⟨xs, n, hfu, rfl, hl, hlen, hf⟩ := DataW.trod_struct ht h
    obtain ⟨z0, z1, z2, z3, z4, rfl⟩ := list5 hlen
    rw [hcT] at hl
    obtain ⟨d0, d1, d2, d3, d4, rfl⟩ := list5 hl
    have h0 := hf 0 f0 rfl
    have h1 := hf 1 f1 rfl
    have h2 := hf 2 f2 rfl
    have h3 := hf 3 f3 rfl
    have h4 := hf 4 f4 rfl
    rw [o0, e0] at h0
    rw [o1, e1] at h1
    rw [o2, e2] at h2
    rw [o3, e3] at h3
    rw [o4, e4] at h4
    simp only [List.drop_zero, List.drop_succ_cons, List.take_succ_cons, List.take_zero, List.getElem?_cons_zero, List.getElem?_cons_succ, Option.bind_some] at h0 h1 h2 h3 h4
    simp only [DataW.weights, ht, DataW.weightsEach, List.map_cons, List.map_nil, List.all_append, Bool.and_eq_true] at hw
    obtain ⟨w0, w1, w2, w3, w4, _⟩ := hw
    obtain ⟨N', rfl⟩ : ∃ q, N = q + 1 := ⟨N - 1, by omega⟩
    obtain ⟨a0, k0, g0⟩ := op_int hI n _ _ _ _ _ _ h0 w0
    obtain ⟨a1, k1, g1⟩ := op_bool hB n _ _ _ _ _ _ h1 w1
    obtain ⟨a2, ⟨A2, C2, k2, hc2, hr2⟩, m2, q2, g2⟩ := op_slice (d := Kd.int .u8) hD hcD b1 n (fun m _ => op_int heD m) _ _ _ _ _ _ h2 w2
    obtain ⟨a3, ⟨A3, C3, k3, hc3, hr3⟩, m3, q3, g3⟩ := op_slice (d := Kd.string) hNm hcN b2 n (fun m _ => op_string heN m) _ _ _ _ _ _ h3 w3
    obtain ⟨a4, ⟨A4, C4, k4, hc4, hr4⟩, m4, q4, g4⟩ := op_slice (d := k26) hK hcT b3 n (fun m hm => ih m (by omega) N' (by omega)) _ _ _ _ _ _ h4 w4
    obtain rfl : d0 = .int .i64 a0 := by have := k0; exact (List.cons.inj this).1
    obtain rfl : d1 = .bool a1 := by have := k1; exact (List.cons.inj this).1
    obtain rfl := (List.cons.inj k2).1
    obtain rfl := (List.cons.inj k3).1
    obtain rfl := (List.cons.inj k4).1
    exact ⟨⟨a0, a1, a2, a3, a4⟩, k26_mk W ⟨a0, a1, a2, a3, a4⟩ hc2 hr2 hc3 hr3 hc4 hr4, g0, ⟨m2, q2, g2⟩, ⟨m3, q3, g3⟩, m4, q4, g4⟩
/-- a tree among the arguments, by value -/
theorem open_tree {H : Type} {enc : TypeId × Value → H} {P : Program} {tT : TypeId} {W : World} {r : Reach} {b0 base : Nat} {spare : Nat → Bool} {held : Bool} {v : Value} {d : DataW H} {p : List MemPlace} {fs : Array Field}
    (ht : P.underlying tT = some (.struct fs)) (ho : ∀ (fuel N : Nat), fuel ≤ N → Open.Op enc P tT k26 (GT N) fuel)
    (hw : (DataW.weights P tT d).all (· ≤ reachBytes) = true) (hv : Value.okWide P W r b0 tT v) (h : DataW.Trod enc P W base spare held tT v d p) :
    ∃ (N : Nat) (t : S26) (A2 : Option Addr) (c2 : Nat) (A3 : Option Addr) (c3 : Nat) (A4 : Option Addr) (c4 : Nat), v = .agg #[.int .i64 t.f0, .bool t.f1, .slice A2 t.f2.length c2, .slice A3 t.f3.length c3, .slice A4 t.f4.length c4] ∧
      t.f2.length ≤ c2 ∧ (Kd.int .u8).C W A2 t.f2.length t.f2 ∧ t.f3.length ≤ c3 ∧ Kd.string.C W A3 t.f3.length t.f3 ∧ t.f4.length ≤ c4 ∧ k26.C W A4 t.f4.length t.f4 ∧ GT N t := by
  obtain ⟨cs, rfl, hsz⟩ := okWide_struct ht hv
  obtain ⟨fuel, hf⟩ := h
  obtain ⟨t, hk, hg⟩ := ho fuel fuel (Nat.le_refl _) W base spare held _ _ hf hw
  have hk' : k26.K W t (Value.cells (.agg cs)).toList := hk
  obtain ⟨A2, c2, A3, c3, A4, c4, hcs, h2⟩ := k26_open hk'
  refine ⟨fuel, t, A2, c2, A3, c3, A4, c4, ?_, h2.1, h2.2.1, h2.2.2.1, h2.2.2.2.1, h2.2.2.2.2.1, h2.2.2.2.2.2, hg⟩
  have hx : (Value.cells (.agg cs)) = cs := rfl
  rw [hx] at hcs
  congr 1
  exact Array.toList_inj.1 hcs
end Go.Proofs.YtfnofjcdaghniaaDoor.Tree
