/- An array of bytes that comes in. Own work. -/
import Derived.Test.YtlkddmkfllnnhaaMd1
import Derived.Test.YtlkddmkfllnnhaaPL
import Derived.Test.YtlkddmkfllnnhaaOpen
import Derived.OpenShut
namespace Go.Proofs.Ytlkddmkfllnnhaa.Dg
open Go.RowKit Go.Proofs.Ytlkddmkfllnnhaa.PL Go.Proofs.YtlkddmkfllnnhaaW.PrintWords
theorem okWide_array {P : Program} {W : World} {r : Reach} {b0 : Nat} {t n e : Nat} {v : Value} (ht : P.underlying t = some (.array n e)) (h : Value.okWide P W r b0 t v) : ∃ cs, v = .agg cs ∧ cs.size = P.cellsOf t := by
  unfold Value.okWide at h
  rw [ht] at h
  obtain ⟨cs, h1, h2, _⟩ := h
  exact ⟨cs, h1, h2⟩
set_option maxRecDepth 100000 in
theorem open_bytes {H : Type} {enc : TypeId × Value → H} {W : World} {r : Reach} {b0 base : Nat} {spare : Nat → Bool} {held : Bool} {v : Value} {d : DataW H} {p : List MemPlace}
    (hv : Value.okWide Try.prog W r b0 25 v) (h : DataW.Trod enc Try.prog W base spare held 25 v d p) : ∃ l : List Int, v = .agg (nums .u8 l).toArray ∧ l.length = 32 ∧ B8 l := by
  obtain ⟨cs, rfl, hsz⟩ := okWide_array Try.underlying25 hv
  obtain ⟨fuel, hf⟩ := h
  obtain ⟨xs, m, _, _, _, hxl, hi⟩ := DataW.trod_array Try.underlying25 hf
  have hce : Try.prog.cellsOf 5 = 1 := by kernel_rfl
  have hsz' : cs.size = 32 := hsz.trans (by kernel_rfl)
  have key : ∀ i, i < 32 → ∃ n : Int, cs[i]? = some (.int .u8 n) ∧ (Lit.int .u8 n).wf = true := by
    intro i h32
    have h1 := hi i h32
    rw [List.getElem?_eq_getElem (show i < xs.length by omega), hce] at h1
    obtain ⟨n, h2, _, hw⟩ := DataW.trod_int Try.underlying5 h1
    refine ⟨n, ?_, hw⟩
    have h3 : (Value.agg cs).cells = cs := rfl
    rw [h3, Nat.mul_one, List.drop_eq_getElem_cons (show i < cs.toList.length by rw [Array.length_toList]; omega)] at h2
    simp only [List.take_succ_cons, List.take_zero, List.cons.injEq, and_true] at h2
    rw [Array.getElem?_eq_getElem (by omega)]
    rw [Array.getElem_toList] at h2
    rw [h2]
  obtain ⟨l, hl, hp⟩ := Open.pick key
  refine ⟨l, ?_, hl, B8.of_wf (fun x hx => ?_)⟩
  · have hcs : cs = (nums .u8 l).toArray := by
      apply Array.ext_getElem?
      intro i
      by_cases h32 : i < 32
      · have h1 := (hp i l[i] (List.getElem?_eq_getElem (by omega))).1
        rw [h1]
        simp [nums, List.getElem?_eq_getElem (show i < l.length by omega)]
      · rw [Array.getElem?_eq_none (by omega), List.getElem?_toArray, List.getElem?_eq_none (by rw [nums_length]; omega)]
    rw [hcs]
  · obtain ⟨j, hj, rfl⟩ := List.getElem_of_mem hx
    exact (hp j l[j] (List.getElem?_eq_getElem hj)).2
end Go.Proofs.Ytlkddmkfllnnhaa.Dg
