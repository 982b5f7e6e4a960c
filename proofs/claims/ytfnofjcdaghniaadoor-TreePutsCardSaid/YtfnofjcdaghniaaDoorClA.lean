/- tree: rows cloned; a row of trees told by its cells. Own work; printed by gen_cl.py. -/
import Derived.Test.YtfnofjcdaghniaaDoorEqA
import Derived.WalkSpells
namespace Go.Proofs.YtfnofjcdaghniaaDoor.Tree
set_option linter.unusedVariables false
set_option linter.unusedSimpArgs false
open Go.RowKit Go.Proofs.YtfnofjcdaghniaaDoor.PL Go.Proofs.YtfnofjcdaghniaaDoor.Mt Go.Proofs.YtfnofjcdaghniaaDoorW.PrintWords Go.Proofs.YtfnofjcdaghniaaDoorW.PrintLast Go.Proofs.YtfnofjcdaghniaaDoorW.PrintMore
/-- cells of five as they lie -/
def kraw : Kd (List Value) where
  sz := 5
  E := []
  K := fun _ x cs => cs = x ∧ x.length = 5 ∧ ∀ u ∈ x, u.oneCell' = true
  M := fun _ _ _ x cs => cs = x ∧ x.length = 5 ∧ ∀ u ∈ x, u.oneCell' = true
  K_len := fun h => by rw [h.1]; exact h.2.1
  K_one := fun h => by rw [h.1]; exact h.2.2
  K_below := fun _ h => h
  K_of_M := fun h => h
  M_mono := fun _ h => h
  M_bound := fun h => h
  M_move := fun _ h => h
  M_lower := fun _ h => h
theorem kids_C {w : World} {A : Option Addr} {ks : List S26} {css : List (List Value)} (h : kraw.C w A css.length css) (hl : ks.length = css.length) (hk : ∀ (j : Nat) (x : S26) (c : List Value), ks[j]? = some x → css[j]? = some c → k26.K w x c) : k26.C w A ks.length ks := by
  obtain ⟨h1, h2, h3⟩ := h
  refine ⟨rfl, by omega, fun h0 => ?_⟩
  obtain ⟨ad, e, hc⟩ := h3 (by omega)
  refine ⟨ad, e, fun j p hp => ?_⟩
  have hj : j < css.length := by have := (List.getElem?_eq_some_iff.1 hp).1; omega
  obtain ⟨c, g1, g2, g3⟩ := hc j css[j] (List.getElem?_eq_getElem hj)
  have e1 : c = css[j] := g2.1
  subst e1
  exact ⟨_, g1, hk j p _ hp (List.getElem?_eq_getElem hj), g3⟩
/-- the other way round: the cells of a row of trees -/
theorem kids_raw {w : World} {A : Option Addr} {ks : List S26} (h : k26.C w A ks.length ks) : ∃ css : List (List Value), css.length = ks.length ∧ kraw.C w A css.length css ∧ ∀ (j : Nat) (x : S26) (c : List Value), ks[j]? = some x → css[j]? = some c → k26.K w x c := by
  obtain ⟨h1, h2, h3⟩ := h
  rcases Nat.eq_zero_or_pos ks.length with h0 | h0
  · refine ⟨[], by simp [h0], ⟨rfl, by simp, fun hh => absurd hh (Nat.lt_irrefl 0)⟩, fun j x c hx => ?_⟩
    have := (List.getElem?_eq_some_iff.1 hx).1
    omega
  · obtain ⟨ad, e, hc⟩ := h3 h0
    have hch : ∀ j : Fin ks.length, ∃ c : List Value, _ := fun j => hc j.1 ks[j.1] (List.getElem?_eq_getElem j.2)
    obtain ⟨f, hf⟩ := Classical.axiomOfChoice hch
    refine ⟨List.ofFn f, by simp, ⟨rfl, by simp; omega, fun _ => ⟨ad, e, fun j p hp => ?_⟩⟩, fun j x c hx hcc => ?_⟩
    · have hj : j < ks.length := by have := (List.getElem?_eq_some_iff.1 hp).1; simpa using this
      have hp2 : p = f ⟨j, hj⟩ := by rw [List.getElem?_ofFn, dif_pos hj] at hp; exact (Option.some.inj hp).symm
      obtain ⟨g1, g2, g3⟩ := hf ⟨j, hj⟩
      exact ⟨p, by rw [hp2]; exact g1, ⟨rfl, by rw [hp2]; exact k26.K_len g2, by rw [hp2]; exact k26.K_one g2⟩, by rw [hp2]; exact g3⟩
    · have hj : j < ks.length := (List.getElem?_eq_some_iff.1 hx).1
      have hc2 : c = f ⟨j, hj⟩ := by rw [List.getElem?_ofFn, dif_pos hj] at hcc; exact (Option.some.inj hcc).symm
      have hx2 : x = ks[j] := by rw [List.getElem?_eq_getElem hj] at hx; exact (Option.some.inj hx).symm
      rw [hc2, hx2]
      exact (hf ⟨j, hj⟩).2.1
set_option maxHeartbeats 1000000 in
set_option maxRecDepth 10000 in
theorem bclone_any (A : Option Addr) (c : Nat) (l : List Int) (w : World) (hC : (Kd.int .u8).C w A l.length l) (hl : l.length * 1 ≤ 140737488355320) :
    Calls Tryd.prog 53 #[.slice A l.length c] w fun e w' => ∃ v, e = .returned v ∧ (Kd.int .u8).R 5 w' w.heap.size (fun _ => True) v l ∧ Below w.heap.size w w' := by
  have heq := fun W : World => Lib.run_eql_slice_nil (P := Tryd.prog) W 22 5 A l.length c 0 0 Tryd.underlying22
  have HC := Aside0.mk hC
  rcases A with _ | ad
  · have hl0 : l = [] := by
      rcases Nat.eq_zero_or_pos l.length with h | h
      · exact List.eq_nil_of_length_eq_zero h
      · obtain ⟨_, _, h3⟩ := HC.out
        obtain ⟨ad, e, _⟩ := h3 h
        cases e
    subst hl0
    clear hl hC
    rw [List.length_nil] at heq ⊢
    go_enter Tryd.func53, Tryd.ntmps53
    go_wp2
    go_ret
    exact ⟨_, rfl, Kd.R_nil _ _ _ _ _, Below.refl _ _⟩
  · clear hC
    go_enter Tryd.func53, Tryd.ntmps53
    go_wp2_with (first | ((with_reducible refine gate_dst (N := 5) rfl ?_); refine Kd.R_lit (Kd.int .u8) _ 5 ?hg (N := 5) ?hd (xs := ([] : List Int)) (inner := []) (ok := fun _ => True) (okp := fun _ => True) ?hr ?hp (fun _ hk => hk) trivial (Below.refl _ _) (Nat.le_refl _) (by simp) ?_; (case hd => rfl); (case hg => rfl); (case hr => first | (go_simp; done) | (go_simp; rfl)); (case hp => exact (Reps.none _ _)); intro v1 w1 ho hb hg_ hnew_; have HO := Aside0.mk ho; have HB := Aside0.mk hb; clear hg_ hnew_ ho hb) | ((with_reducible refine gate_builtin (b := .append) (xs := #[.tmp 5, .tmp 6]) rfl ?_); at_builtin; refine Kd.R_append_rows (Kd.int .u8) (w0 := w) w.heap.size rfl (.tmp 5) (.tmp 6) 22 5 (.int .u8 0) 1 rfl Tryd.underlying22 (by kernel_rfl) rfl (by decide) (by decide) v1 [] l _ _ _ (fun _ => True) (fun _ => False) rfl rfl HO.out (Kd.C_below HC.out HB.out) (fun _ _ h => h) (fun _ h => h.elim) (fun _ _ => trivial) HB.out HB.out.size (by rw [List.length_nil]; omega) ?_; intro v2 w2 ho hb hg hat; have HO2 := Aside0.mk ho; have HB2 := Aside0.mk hb; clear ho hb hg hat))
    go_ret
    exact ⟨_, rfl, HO2.out, HB2.out⟩
set_option maxHeartbeats 1000000 in
set_option maxRecDepth 10000 in
theorem sclone_any (A : Option Addr) (c : Nat) (l : List ByteArray) (w : World) (hC : Kd.string.C w A l.length l) (hl : l.length * 16 ≤ 140737488355320) :
    Calls Tryd.prog 49 #[.slice A l.length c] w fun e w' => ∃ v, e = .returned v ∧ Kd.string.R 9 w' w.heap.size (fun _ => True) v l ∧ Below w.heap.size w w' := by
  have heq := fun W : World => Lib.run_eql_slice_nil (P := Tryd.prog) W 23 9 A l.length c 0 0 Tryd.underlying23
  have HC := Aside0.mk hC
  rcases A with _ | ad
  · have hl0 : l = [] := by
      rcases Nat.eq_zero_or_pos l.length with h | h
      · exact List.eq_nil_of_length_eq_zero h
      · obtain ⟨_, _, h3⟩ := HC.out
        obtain ⟨ad, e, _⟩ := h3 h
        cases e
    subst hl0
    clear hl hC
    rw [List.length_nil] at heq ⊢
    go_enter Tryd.func49, Tryd.ntmps49
    go_wp2
    go_ret
    exact ⟨_, rfl, Kd.R_nil _ _ _ _ _, Below.refl _ _⟩
  · clear hC
    go_enter Tryd.func49, Tryd.ntmps49
    go_wp2_with (first | ((with_reducible refine gate_dst (N := 5) rfl ?_); refine Kd.R_lit Kd.string _ 9 ?hg (N := 5) ?hd (xs := ([] : List ByteArray)) (inner := []) (ok := fun _ => True) (okp := fun _ => True) ?hr ?hp (fun _ hk => hk) trivial (Below.refl _ _) (Nat.le_refl _) (by simp) ?_; (case hd => rfl); (case hg => rfl); (case hr => first | (go_simp; done) | (go_simp; rfl)); (case hp => exact (Reps.none _ _)); intro v1 w1 ho hb hg_ hnew_; have HO := Aside0.mk ho; have HB := Aside0.mk hb; clear hg_ hnew_ ho hb) | ((with_reducible refine gate_builtin (b := .append) (xs := #[.tmp 5, .tmp 6]) rfl ?_); at_builtin; refine Kd.R_append_rows Kd.string (w0 := w) w.heap.size rfl (.tmp 5) (.tmp 6) 23 9 (.string ByteArray.empty) 16 rfl Tryd.underlying23 (by kernel_rfl) rfl (by decide) (by decide) v1 [] l _ _ _ (fun _ => True) (fun _ => False) rfl rfl HO.out (Kd.C_below HC.out HB.out) (fun _ _ h => h) (fun _ h => h.elim) (fun _ _ => trivial) HB.out HB.out.size (by rw [List.length_nil]; omega) ?_; intro v2 w2 ho hb hg hat; have HO2 := Aside0.mk ho; have HB2 := Aside0.mk hb; clear ho hb hg hat))
    go_ret
    exact ⟨_, rfl, HO2.out, HB2.out⟩
set_option maxHeartbeats 1000000 in
set_option maxRecDepth 10000 in
theorem tclone_any (A : Option Addr) (c : Nat) (l : List (List Value)) (w : World) (hC : kraw.C w A l.length l) (hl : l.length * 88 ≤ 140737488355320) :
    Calls Tryd.prog 50 #[.slice A l.length c] w fun e w' => ∃ v, e = .returned v ∧ kraw.R 26 w' w.heap.size (fun _ => True) v l ∧ Below w.heap.size w w' := by
  have heq := fun W : World => Lib.run_eql_slice_nil (P := Tryd.prog) W 24 26 A l.length c 0 0 Tryd.underlying24
  have HC := Aside0.mk hC
  rcases A with _ | ad
  · have hl0 : l = [] := by
      rcases Nat.eq_zero_or_pos l.length with h | h
      · exact List.eq_nil_of_length_eq_zero h
      · obtain ⟨_, _, h3⟩ := HC.out
        obtain ⟨ad, e, _⟩ := h3 h
        cases e
    subst hl0
    clear hl hC
    rw [List.length_nil] at heq ⊢
    go_enter Tryd.func50, Tryd.ntmps50
    go_wp2
    go_ret
    exact ⟨_, rfl, Kd.R_nil _ _ _ _ _, Below.refl _ _⟩
  · clear hC
    go_enter Tryd.func50, Tryd.ntmps50
    go_wp2_with (first | ((with_reducible refine gate_dst (N := 5) rfl ?_); refine Kd.R_lit kraw _ 26 ?hg (N := 5) ?hd (xs := ([] : List (List Value))) (inner := []) (ok := fun _ => True) (okp := fun _ => True) ?hr ?hp (fun _ hk => hk) trivial (Below.refl _ _) (Nat.le_refl _) (by simp) ?_; (case hd => rfl); (case hg => rfl); (case hr => first | (go_simp; done) | (go_simp; rfl)); (case hp => exact (Reps.none _ _)); intro v1 w1 ho hb hg_ hnew_; have HO := Aside0.mk ho; have HB := Aside0.mk hb; clear hg_ hnew_ ho hb) | ((with_reducible refine gate_builtin (b := .append) (xs := #[.tmp 5, .tmp 6]) rfl ?_); at_builtin; refine Kd.R_append_rows kraw (w0 := w) w.heap.size rfl (.tmp 5) (.tmp 6) 24 26 (.agg #[.int .i64 0, .bool false, .slice none 0 0, .slice none 0 0, .slice none 0 0]) 88 rfl Tryd.underlying24 (by kernel_rfl) rfl (by decide) (by decide) v1 [] l _ _ _ (fun _ => True) (fun _ => False) rfl rfl HO.out (Kd.C_below HC.out HB.out) (fun _ _ h => h) (fun _ h => h.elim) (fun _ _ => trivial) HB.out HB.out.size (by rw [List.length_nil]; omega) ?_; intro v2 w2 ho hb hg hat; have HO2 := Aside0.mk ho; have HB2 := Aside0.mk hb; clear ho hb hg hat))
    go_ret
    exact ⟨_, rfl, HO2.out, HB2.out⟩
end Go.Proofs.YtfnofjcdaghniaaDoor.Tree
