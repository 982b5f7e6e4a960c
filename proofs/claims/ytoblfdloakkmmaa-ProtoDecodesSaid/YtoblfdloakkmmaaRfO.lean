/- pantryref26: open; what holds while Decode reads; what it tells. Own work. -/
import Derived.Test.YtoblfdloakkmmaaRfA
import Derived.Test.YtoblfdloakkmmaaRdE
import Derived.Test.YtoblfdloakkmmaaRdI
import Derived.Test.YtoblfdloakkmmaaRdM
namespace Go.Proofs.Ytoblfdloakkmmaa.Rf
set_option linter.unusedVariables false
set_option linter.unusedSimpArgs false
open Go.RowKit Go.Proofs.Ytoblfdloakkmmaa.Mp Go.Proofs.Ytoblfdloakkmmaa.PL Go.Proofs.Ytoblfdloakkmmaa.Rd Go.Proofs.YtoblfdloakkmmaaW.PrintWords Go.Proofs.YtoblfdloakkmmaaW.PrintLast Go.Proofs.YtoblfdloakkmmaaW.PrintMore
theorem rs_new78 {w W : World} {A : Option Addr} {c g : Nat} {q : List Int} (hg : W.heap.size = g) (hB : Below w.heap.size w W) (hC : (Kd.int .u8).C w A q.length q) (hc : q.length ≤ c) : RS 78 w (W.alloc (.cells #[.slice A q.length c, .bool false] 78)) g q false := by
  subst hg
  exact ⟨A, c, heap_alloc_new W _, hc, hC, hB.size, below_alloc hB _⟩
theorem take3 {l : List Int} (h : 3 ≤ l.length) : l.take 3 = [rd l 0, rd l 1, rd l 2] := by
  match l, h with
  | a :: b :: c :: t, _ => rfl
def openE (w : World) (E : Int) (e : Ending) (w' : World) : Prop := e = .returned (.tuple #[.slice none 0 0, .int .i64 0, .int .i64 0, .int .i64 E]) ∧ Below w.heap.size w w'
theorem rop_short (w : World) (A : Option Addr) (c : Nat) (l : List Int) (hl : l.length < 8) : Calls Try.prog 34 #[.slice A l.length c, .bool false] w (openE w 2) := by
  have h8 : decide ((l.length : Int) < 8) = true := decide_eq_true (by omega)
  go_enter Try.func34, Try.ntmps34
  go_wp2_with fail
  exact bodyPost_ret (v := .tuple #[.slice none 0 0, .int .i64 0, .int .i64 0, .int .i64 2]) (by simp [results, Try.results34, go_sem]) rfl ⟨rfl, Below.refl _ _⟩
set_option maxHeartbeats 1000000 in
theorem rop_form1 (w : World) (A : Option Addr) (c : Nat) (l : List Int) (hl : 8 ≤ l.length) (hc : l.length ≤ c) (hC : (Kd.int .u8).C w A l.length l) (hb : B8 l) (hk : l.take 3 ≠ [80, 68, 1]) : Calls Try.prog 34 #[.slice A l.length c, .bool false] w (openE w 3) := by
  have h3 : (3 : Int) < (l.length : Int) := by omega
  have h2 : (2 : Int) < (l.length : Int) := by omega
  have h1 : (1 : Int) < (l.length : Int) := by omega
  have h0 : (0 : Int) < (l.length : Int) := by omega
  have h8 : decide ((l.length : Int) < 8) = false := decide_eq_false (by omega)
  have hr := hb.rd 3
  obtain ⟨ad, rfl, k3⟩ := Kd.at_int hC 3 (by decide) (by omega)
  obtain ⟨a0, e0, k0⟩ := Kd.at_int hC 0 (by decide) (by omega)
  obtain ⟨a1, e1, k1⟩ := Kd.at_int hC 1 (by decide) (by omega)
  obtain ⟨a2, e2, k2⟩ := Kd.at_int hC 2 (by decide) (by omega)
  obtain rfl := Option.some.inj e0
  obtain rfl := Option.some.inj e1
  obtain rfl := Option.some.inj e2
  have c0 : w.cell? ad = some (.int .u8 (rd l 0)) := by simpa [Addr.add] using k0
  have c1 : w.cell? ⟨ad.block, ad.off + 1, none⟩ = some (.int .u8 (rd l 1)) := k1
  have c2 : w.cell? ⟨ad.block, ad.off + 2, none⟩ = some (.int .u8 (rd l 2)) := k2
  have c3 : w.cell? ⟨ad.block, ad.off + 3, none⟩ = some (.int .u8 (rd l 3)) := k3
  clear k0 k1 k2 k3 e0 e1 e2
  rw [take3 (by omega)] at hk
  have hw : (rd l 0 != 80) = true ∨ ((rd l 0 != 80) = false ∧ (rd l 1 != 68) = true) ∨ ((rd l 0 != 80) = false ∧ (rd l 1 != 68) = false ∧ (rd l 2 != 1) = true) := by
    by_cases q0 : rd l 0 = 80
    · by_cases q1 : rd l 1 = 68
      · by_cases q2 : rd l 2 = 1
        · exact absurd (by rw [q0, q1, q2]) hk
        · exact .inr (.inr ⟨by simp [q0], by simp [q1], bne_iff_ne.2 q2⟩)
      · exact .inr (.inl ⟨by simp [q0], bne_iff_ne.2 q1⟩)
    · exact .inl (bne_iff_ne.2 q0)
  clear hk hC hb
  generalize rd l 0 = y0 at *
  generalize rd l 1 = y1 at *
  generalize rd l 2 = y2 at *
  generalize rd l 3 = x at *
  obtain ⟨hx0, hx1⟩ := hr
  rcases hw with q0 | ⟨q0, q1⟩ | ⟨q0, q1, q2⟩
  all_goals
    go_enter Try.func34, Try.ntmps34
    go_wp2_with fail
    exact bodyPost_ret (v := .tuple #[.slice none 0 0, .int .i64 0, .int .i64 0, .int .i64 3]) (by simp [results, Try.results34, go_sem]) rfl ⟨rfl, Below.refl _ _⟩
set_option maxHeartbeats 1000000 in
theorem rop_form2 (w : World) (A : Option Addr) (c : Nat) (l : List Int) (hl : 8 ≤ l.length) (hc : l.length ≤ c) (hC : (Kd.int .u8).C w A l.length l) (hb : B8 l) (hk : l.take 3 = [80, 68, 1]) (hi : ¬ (1 ≤ rd l 3 ∧ rd l 3 ≤ 100)) : Calls Try.prog 34 #[.slice A l.length c, .bool false] w (openE w 3) := by
  have h3 : (3 : Int) < (l.length : Int) := by omega
  have h2 : (2 : Int) < (l.length : Int) := by omega
  have h1 : (1 : Int) < (l.length : Int) := by omega
  have h0 : (0 : Int) < (l.length : Int) := by omega
  have h8 : decide ((l.length : Int) < 8) = false := decide_eq_false (by omega)
  have hr := hb.rd 3
  obtain ⟨ad, rfl, k3⟩ := Kd.at_int hC 3 (by decide) (by omega)
  obtain ⟨a0, e0, k0⟩ := Kd.at_int hC 0 (by decide) (by omega)
  obtain ⟨a1, e1, k1⟩ := Kd.at_int hC 1 (by decide) (by omega)
  obtain ⟨a2, e2, k2⟩ := Kd.at_int hC 2 (by decide) (by omega)
  obtain rfl := Option.some.inj e0
  obtain rfl := Option.some.inj e1
  obtain rfl := Option.some.inj e2
  have c0 : w.cell? ad = some (.int .u8 (rd l 0)) := by simpa [Addr.add] using k0
  have c1 : w.cell? ⟨ad.block, ad.off + 1, none⟩ = some (.int .u8 (rd l 1)) := k1
  have c2 : w.cell? ⟨ad.block, ad.off + 2, none⟩ = some (.int .u8 (rd l 2)) := k2
  have c3 : w.cell? ⟨ad.block, ad.off + 3, none⟩ = some (.int .u8 (rd l 3)) := k3
  clear k0 k1 k2 k3 e0 e1 e2
  rw [take3 (by omega)] at hk
  injection hk with p0 hk
  injection hk with p1 hk
  injection hk with p2 hk
  rw [p0] at c0
  rw [p1] at c1
  rw [p2] at c2
  clear p0 p1 p2 hk
  generalize rd l 3 = x at *
  obtain ⟨hx0, hx1⟩ := hr
  clear hC hb
  have hw : decide (x < 1) = true ∨ (decide (x < 1) = false ∧ decide (100 < x) = true) := by
    by_cases q : x < 1
    · exact .inl (decide_eq_true q)
    · exact .inr ⟨decide_eq_false q, decide_eq_true (by omega)⟩
  clear hi
  rcases hw with q0 | ⟨q0, q1⟩
  all_goals
    go_enter Try.func34, Try.ntmps34
    go_wp2_with fail
    exact bodyPost_ret (v := .tuple #[.slice none 0 0, .int .i64 0, .int .i64 0, .int .i64 3]) (by simp [results, Try.results34, go_sem]) rfl ⟨rfl, Below.refl _ _⟩
set_option maxHeartbeats 1000000 in
theorem rop_long (w : World) (A : Option Addr) (c : Nat) (l : List Int) (hl : 8 ≤ l.length) (hc : l.length ≤ c) (hC : (Kd.int .u8).C w A l.length l) (hb : B8 l) (hk : l.take 3 = [80, 68, 1]) (hi : 1 ≤ rd l 3 ∧ rd l 3 ≤ 100) (hn : 4194304 < V ((l.drop 4).take 4)) : Calls Try.prog 34 #[.slice A l.length c, .bool false] w (openE w 5) := by
  have h3 : (3 : Int) < (l.length : Int) := by omega
  have h2 : (2 : Int) < (l.length : Int) := by omega
  have h1 : (1 : Int) < (l.length : Int) := by omega
  have h0 : (0 : Int) < (l.length : Int) := by omega
  have h8 : decide ((l.length : Int) < 8) = false := decide_eq_false (by omega)
  have hr := hb.rd 3
  obtain ⟨ad, rfl, k3⟩ := Kd.at_int hC 3 (by decide) (by omega)
  obtain ⟨a0, e0, k0⟩ := Kd.at_int hC 0 (by decide) (by omega)
  obtain ⟨a1, e1, k1⟩ := Kd.at_int hC 1 (by decide) (by omega)
  obtain ⟨a2, e2, k2⟩ := Kd.at_int hC 2 (by decide) (by omega)
  obtain rfl := Option.some.inj e0
  obtain rfl := Option.some.inj e1
  obtain rfl := Option.some.inj e2
  have c0 : w.cell? ad = some (.int .u8 (rd l 0)) := by simpa [Addr.add] using k0
  have c1 : w.cell? ⟨ad.block, ad.off + 1, none⟩ = some (.int .u8 (rd l 1)) := k1
  have c2 : w.cell? ⟨ad.block, ad.off + 2, none⟩ = some (.int .u8 (rd l 2)) := k2
  have c3 : w.cell? ⟨ad.block, ad.off + 3, none⟩ = some (.int .u8 (rd l 3)) := k3
  clear k0 k1 k2 k3 e0 e1 e2
  rw [take3 (by omega)] at hk
  injection hk with p0 hk
  injection hk with p1 hk
  injection hk with p2 hk
  rw [p0] at c0
  rw [p1] at c1
  rw [p2] at c2
  clear p0 p1 p2 hk
  generalize rd l 3 = x at *
  obtain ⟨hx0, hx1⟩ := hr
  have f1 : decide (x < 1) = false := decide_eq_false (by omega)
  have f2 : decide (100 < x) = false := decide_eq_false (by omega)
  obtain ⟨i0, hi0, _, hsz0, _⟩ := info_parts info5
  obtain ⟨A2, hcut, hA2, hc2⟩ := print_drop_of (P := Try.prog) (Value.int .u8) 0 27 5 .i64 Try.underlying27 hi0 hsz0 (some ad) c l 4 (by decide) (by omega) hc
  have HQ := Aside0.mk (Kd.C_of_reads (h1 := fun _ => rfl) (hA2 w (Kd.reads_of_C hC)))
  have HQC := Aside0.mk hc2
  have HC := Aside0.mk hC
  have HCC := Aside0.mk hc
  clear hA2 hc2 hi0 hsz0
  have hqb := hb.drop 4
  have hq4 : 4 ≤ (l.drop 4).length := by rw [List.length_drop]; omega
  have e4 : ((4 : Int)).toNat = 4 := rfl
  rw [e4] at hcut HQ HQC
  obtain ⟨q, hq⟩ : ∃ q, l.drop 4 = q := ⟨_, rfl⟩
  rw [hq] at hcut HQ HQC hqb hq4 hn
  clear hq e4
  have hrk : rk q false 4 = (q.take 4, q.drop 4, false) := by unfold rk; rw [if_neg (by simp; omega)]
  have htk : r4 q false = V (q.take 4) := by unfold r4; rw [hrk]; rfl
  clear hrk
  have HNUM := Aside0.mk (fun (w1 : World) (g : Nat) (h : RS 78 w w1 g q false) => four_any w w1 g q false h hqb)
  rw [htk] at HNUM
  obtain ⟨n, hnn⟩ : ∃ n, V (q.take 4) = n := ⟨_, rfl⟩
  rw [hnn] at HNUM hn
  clear htk hnn hqb hq4 hC hc hb
  have hn2 : decide ((4194304 : Int) < (n : Int)) = true := decide_eq_true (by omega)
  clear hn hi
  go_enter Try.func34, Try.ntmps34
  go_wp2_with (go_at_call 35; (with_reducible refine (HNUM.out _ _ ?hS).mono ?_); (case hS => exact rs_new78 (by simp) (Below.refl _ _) HQ.out HQC.out); rintro e w3 ⟨rfl, hS3, hK3⟩; have HBN := Aside0.mk (rs_below hS3); clear hS3 hK3 HNUM)
  exact bodyPost_ret (v := .tuple #[.slice none 0 0, .int .i64 0, .int .i64 0, .int .i64 5]) (by simp [results, Try.results34, go_sem]) rfl ⟨rfl, HBN.out⟩
set_option maxHeartbeats 1000000 in
theorem rop_cut (w : World) (A : Option Addr) (c : Nat) (l : List Int) (hl : 8 ≤ l.length) (hc : l.length ≤ c) (hC : (Kd.int .u8).C w A l.length l) (hb : B8 l) (hk : l.take 3 = [80, 68, 1]) (hi : 1 ≤ rd l 3 ∧ rd l 3 ≤ 100) (hn : V ((l.drop 4).take 4) ≤ 4194304) (hs : l.length < 8 + V ((l.drop 4).take 4)) : Calls Try.prog 34 #[.slice A l.length c, .bool false] w (openE w 2) := by
  have h3 : (3 : Int) < (l.length : Int) := by omega
  have h2 : (2 : Int) < (l.length : Int) := by omega
  have h1 : (1 : Int) < (l.length : Int) := by omega
  have h0 : (0 : Int) < (l.length : Int) := by omega
  have h8 : decide ((l.length : Int) < 8) = false := decide_eq_false (by omega)
  have hr := hb.rd 3
  obtain ⟨ad, rfl, k3⟩ := Kd.at_int hC 3 (by decide) (by omega)
  obtain ⟨a0, e0, k0⟩ := Kd.at_int hC 0 (by decide) (by omega)
  obtain ⟨a1, e1, k1⟩ := Kd.at_int hC 1 (by decide) (by omega)
  obtain ⟨a2, e2, k2⟩ := Kd.at_int hC 2 (by decide) (by omega)
  obtain rfl := Option.some.inj e0
  obtain rfl := Option.some.inj e1
  obtain rfl := Option.some.inj e2
  have c0 : w.cell? ad = some (.int .u8 (rd l 0)) := by simpa [Addr.add] using k0
  have c1 : w.cell? ⟨ad.block, ad.off + 1, none⟩ = some (.int .u8 (rd l 1)) := k1
  have c2 : w.cell? ⟨ad.block, ad.off + 2, none⟩ = some (.int .u8 (rd l 2)) := k2
  have c3 : w.cell? ⟨ad.block, ad.off + 3, none⟩ = some (.int .u8 (rd l 3)) := k3
  clear k0 k1 k2 k3 e0 e1 e2
  rw [take3 (by omega)] at hk
  injection hk with p0 hk
  injection hk with p1 hk
  injection hk with p2 hk
  rw [p0] at c0
  rw [p1] at c1
  rw [p2] at c2
  clear p0 p1 p2 hk
  generalize rd l 3 = x at *
  obtain ⟨hx0, hx1⟩ := hr
  have f1 : decide (x < 1) = false := decide_eq_false (by omega)
  have f2 : decide (100 < x) = false := decide_eq_false (by omega)
  obtain ⟨i0, hi0, _, hsz0, _⟩ := info_parts info5
  obtain ⟨A2, hcut, hA2, hc2⟩ := print_drop_of (P := Try.prog) (Value.int .u8) 0 27 5 .i64 Try.underlying27 hi0 hsz0 (some ad) c l 4 (by decide) (by omega) hc
  have HQ := Aside0.mk (Kd.C_of_reads (h1 := fun _ => rfl) (hA2 w (Kd.reads_of_C hC)))
  have HQC := Aside0.mk hc2
  have HC := Aside0.mk hC
  have HCC := Aside0.mk hc
  clear hA2 hc2 hi0 hsz0
  have hqb := hb.drop 4
  have hq4 : 4 ≤ (l.drop 4).length := by rw [List.length_drop]; omega
  have e4 : ((4 : Int)).toNat = 4 := rfl
  rw [e4] at hcut HQ HQC
  obtain ⟨q, hq⟩ : ∃ q, l.drop 4 = q := ⟨_, rfl⟩
  rw [hq] at hcut HQ HQC hqb hq4 hn hs
  clear hq e4
  have hrk : rk q false 4 = (q.take 4, q.drop 4, false) := by unfold rk; rw [if_neg (by simp; omega)]
  have htk : r4 q false = V (q.take 4) := by unfold r4; rw [hrk]; rfl
  clear hrk
  have HNUM := Aside0.mk (fun (w1 : World) (g : Nat) (h : RS 78 w w1 g q false) => four_any w w1 g q false h hqb)
  rw [htk] at HNUM
  obtain ⟨n, hnn⟩ : ∃ n, V (q.take 4) = n := ⟨_, rfl⟩
  rw [hnn] at HNUM hn hs
  clear htk hnn hqb hq4 hC hc hb
  have hn2 : decide ((4194304 : Int) < (n : Int)) = false := decide_eq_false (by omega)
  have hn3 : decide ((l.length : Int) < 8 + (n : Int)) = true := decide_eq_true (by omega)
  have hn4 : (n : Int) ≤ 4194304 := by omega
  clear hn hs hi
  go_enter Try.func34, Try.ntmps34
  go_wp2_with (go_at_call 35; (with_reducible refine (HNUM.out _ _ ?hS).mono ?_); (case hS => exact rs_new78 (by simp) (Below.refl _ _) HQ.out HQC.out); rintro e w3 ⟨rfl, hS3, hK3⟩; have HBN := Aside0.mk (rs_below hS3); clear hS3 hK3 HNUM)
  exact bodyPost_ret (v := .tuple #[.slice none 0 0, .int .i64 0, .int .i64 0, .int .i64 2]) (by simp [results, Try.results34, go_sem]) rfl ⟨rfl, HBN.out⟩
set_option maxHeartbeats 1000000 in
theorem rop_ok (w : World) (A : Option Addr) (c : Nat) (l : List Int) (hl : 8 ≤ l.length) (hc : l.length ≤ c) (hC : (Kd.int .u8).C w A l.length l) (hb : B8 l) (hk : l.take 3 = [80, 68, 1]) (hi : 1 ≤ rd l 3 ∧ rd l 3 ≤ 100) (hn : V ((l.drop 4).take 4) ≤ 4194304) (hs : 8 + V ((l.drop 4).take 4) ≤ l.length) (p : List Int) (hp : (l.take (8 + V ((l.drop 4).take 4))).drop 8 = p) : Calls Try.prog 34 #[.slice A l.length c, .bool false] w fun e w' => ∃ A2 c2, e = .returned (.tuple #[.slice A2 p.length c2, .int .i64 (rd l 3), .int .i64 ((8 + V ((l.drop 4).take 4) : Nat) : Int), .int .i64 0]) ∧ p.length ≤ c2 ∧ (Kd.int .u8).C w A2 p.length p ∧ Below w.heap.size w w' := by
  have h3 : (3 : Int) < (l.length : Int) := by omega
  have h2 : (2 : Int) < (l.length : Int) := by omega
  have h1 : (1 : Int) < (l.length : Int) := by omega
  have h0 : (0 : Int) < (l.length : Int) := by omega
  have h8 : decide ((l.length : Int) < 8) = false := decide_eq_false (by omega)
  have hr := hb.rd 3
  obtain ⟨ad, rfl, k3⟩ := Kd.at_int hC 3 (by decide) (by omega)
  obtain ⟨a0, e0, k0⟩ := Kd.at_int hC 0 (by decide) (by omega)
  obtain ⟨a1, e1, k1⟩ := Kd.at_int hC 1 (by decide) (by omega)
  obtain ⟨a2, e2, k2⟩ := Kd.at_int hC 2 (by decide) (by omega)
  obtain rfl := Option.some.inj e0
  obtain rfl := Option.some.inj e1
  obtain rfl := Option.some.inj e2
  have c0 : w.cell? ad = some (.int .u8 (rd l 0)) := by simpa [Addr.add] using k0
  have c1 : w.cell? ⟨ad.block, ad.off + 1, none⟩ = some (.int .u8 (rd l 1)) := k1
  have c2 : w.cell? ⟨ad.block, ad.off + 2, none⟩ = some (.int .u8 (rd l 2)) := k2
  have c3 : w.cell? ⟨ad.block, ad.off + 3, none⟩ = some (.int .u8 (rd l 3)) := k3
  clear k0 k1 k2 k3 e0 e1 e2
  rw [take3 (by omega)] at hk
  injection hk with p0 hk
  injection hk with p1 hk
  injection hk with p2 hk
  rw [p0] at c0
  rw [p1] at c1
  rw [p2] at c2
  clear p0 p1 p2 hk
  generalize rd l 3 = x at *
  obtain ⟨hx0, hx1⟩ := hr
  have f1 : decide (x < 1) = false := decide_eq_false (by omega)
  have f2 : decide (100 < x) = false := decide_eq_false (by omega)
  obtain ⟨i0, hi0, _, hsz0, _⟩ := info_parts info5
  obtain ⟨A2, hcut, hA2, hc2⟩ := print_drop_of (P := Try.prog) (Value.int .u8) 0 27 5 .i64 Try.underlying27 hi0 hsz0 (some ad) c l 4 (by decide) (by omega) hc
  have HQ := Aside0.mk (Kd.C_of_reads (h1 := fun _ => rfl) (hA2 w (Kd.reads_of_C hC)))
  have HQC := Aside0.mk hc2
  have HC := Aside0.mk hC
  have HCC := Aside0.mk hc
  clear hA2 hc2 hi0 hsz0
  have hqb := hb.drop 4
  have hq4 : 4 ≤ (l.drop 4).length := by rw [List.length_drop]; omega
  have e4 : ((4 : Int)).toNat = 4 := rfl
  rw [e4] at hcut HQ HQC
  obtain ⟨q, hq⟩ : ∃ q, l.drop 4 = q := ⟨_, rfl⟩
  rw [hq] at hcut HQ HQC hqb hq4 hn hs hp ⊢
  clear hq e4
  have hrk : rk q false 4 = (q.take 4, q.drop 4, false) := by unfold rk; rw [if_neg (by simp; omega)]
  have htk : r4 q false = V (q.take 4) := by unfold r4; rw [hrk]; rfl
  clear hrk
  have HNUM := Aside0.mk (fun (w1 : World) (g : Nat) (h : RS 78 w w1 g q false) => four_any w w1 g q false h hqb)
  rw [htk] at HNUM
  obtain ⟨n, hnn⟩ : ∃ n, V (q.take 4) = n := ⟨_, rfl⟩
  rw [hnn] at HNUM hn hs hp ⊢
  clear htk hnn hqb hq4 hC hc hb
  have hn2 : decide ((4194304 : Int) < (n : Int)) = false := decide_eq_false (by omega)
  have hn3 : decide ((l.length : Int) < 8 + (n : Int)) = false := decide_eq_false (by omega)
  have hn4 : (n : Int) ≤ 4194304 := by omega
  have hn0 : (0 : Int) ≤ (n : Int) := by omega
  obtain ⟨i1, hi1, _, hsz1, _⟩ := info_parts info5
  obtain ⟨A3, hcut3, hA3, hc3⟩ := print_mid_of (P := Try.prog) (Value.int .u8) 0 27 5 .i64 .i64 Try.underlying27 hi1 hsz1 (some ad) c l 8 ((8 + n : Nat) : Int) (by decide) (by omega) (by omega) HCC.out
  have HC3 := Aside0.mk (Kd.C_of_reads (h1 := fun _ => rfl) (hA3 w (Kd.reads_of_C HC.out)))
  have HCC3 := Aside0.mk hc3
  clear hA3 hc3 hi1 hsz1
  rw [Int.toNat_natCast] at hcut3 HC3 HCC3
  have e8 : ((8 : Int)).toNat = 8 := rfl
  rw [e8] at hcut3 HC3 HCC3
  rw [hp] at hcut3 HC3 HCC3
  clear hp e8
  have e9 : ((8 + n : Nat) : Int) = 8 + (n : Int) := by omega
  rw [e9] at hcut3 ⊢
  clear hn hs e9 hi
  go_enter Try.func34, Try.ntmps34
  go_wp2_with (go_at_call 35; (with_reducible refine (HNUM.out _ _ ?hS).mono ?_); (case hS => exact rs_new78 (by simp) (Below.refl _ _) HQ.out HQC.out); rintro e w3 ⟨rfl, hS3, hK3⟩; have HBN := Aside0.mk (rs_below hS3); clear hS3 hK3 HNUM)
  exact bodyPost_ret (v := .tuple #[.slice A3 p.length _, .int .i64 x, .int .i64 (8 + (n : Int)), .int .i64 0]) (by simp [results, Try.results34, go_sem]) rfl ⟨A3, _, rfl, HCC3.out, HC3.out, HBN.out⟩
theorem rrp_short (w : World) (A : Option Addr) (c : Nat) (l : List Int) (hl : l.length < 8) : Calls Try.prog 34 #[.slice A l.length c, .bool true] w (openE w 2) := by
  have h8 : decide ((l.length : Int) < 8) = true := decide_eq_true (by omega)
  go_enter Try.func34, Try.ntmps34
  go_wp2_with fail
  exact bodyPost_ret (v := .tuple #[.slice none 0 0, .int .i64 0, .int .i64 0, .int .i64 2]) (by simp [results, Try.results34, go_sem]) rfl ⟨rfl, Below.refl _ _⟩
set_option maxHeartbeats 1000000 in
theorem rrp_form1 (w : World) (A : Option Addr) (c : Nat) (l : List Int) (hl : 8 ≤ l.length) (hc : l.length ≤ c) (hC : (Kd.int .u8).C w A l.length l) (hb : B8 l) (hk : l.take 3 ≠ [80, 68, 1]) : Calls Try.prog 34 #[.slice A l.length c, .bool true] w (openE w 3) := by
  have h3 : (3 : Int) < (l.length : Int) := by omega
  have h2 : (2 : Int) < (l.length : Int) := by omega
  have h1 : (1 : Int) < (l.length : Int) := by omega
  have h0 : (0 : Int) < (l.length : Int) := by omega
  have h8 : decide ((l.length : Int) < 8) = false := decide_eq_false (by omega)
  have hr := hb.rd 3
  obtain ⟨ad, rfl, k3⟩ := Kd.at_int hC 3 (by decide) (by omega)
  obtain ⟨a0, e0, k0⟩ := Kd.at_int hC 0 (by decide) (by omega)
  obtain ⟨a1, e1, k1⟩ := Kd.at_int hC 1 (by decide) (by omega)
  obtain ⟨a2, e2, k2⟩ := Kd.at_int hC 2 (by decide) (by omega)
  obtain rfl := Option.some.inj e0
  obtain rfl := Option.some.inj e1
  obtain rfl := Option.some.inj e2
  have c0 : w.cell? ad = some (.int .u8 (rd l 0)) := by simpa [Addr.add] using k0
  have c1 : w.cell? ⟨ad.block, ad.off + 1, none⟩ = some (.int .u8 (rd l 1)) := k1
  have c2 : w.cell? ⟨ad.block, ad.off + 2, none⟩ = some (.int .u8 (rd l 2)) := k2
  have c3 : w.cell? ⟨ad.block, ad.off + 3, none⟩ = some (.int .u8 (rd l 3)) := k3
  clear k0 k1 k2 k3 e0 e1 e2
  rw [take3 (by omega)] at hk
  have hw : (rd l 0 != 80) = true ∨ ((rd l 0 != 80) = false ∧ (rd l 1 != 68) = true) ∨ ((rd l 0 != 80) = false ∧ (rd l 1 != 68) = false ∧ (rd l 2 != 1) = true) := by
    by_cases q0 : rd l 0 = 80
    · by_cases q1 : rd l 1 = 68
      · by_cases q2 : rd l 2 = 1
        · exact absurd (by rw [q0, q1, q2]) hk
        · exact .inr (.inr ⟨by simp [q0], by simp [q1], bne_iff_ne.2 q2⟩)
      · exact .inr (.inl ⟨by simp [q0], bne_iff_ne.2 q1⟩)
    · exact .inl (bne_iff_ne.2 q0)
  clear hk hC hb
  generalize rd l 0 = y0 at *
  generalize rd l 1 = y1 at *
  generalize rd l 2 = y2 at *
  generalize rd l 3 = x at *
  obtain ⟨hx0, hx1⟩ := hr
  rcases hw with q0 | ⟨q0, q1⟩ | ⟨q0, q1, q2⟩
  all_goals
    go_enter Try.func34, Try.ntmps34
    go_wp2_with fail
    exact bodyPost_ret (v := .tuple #[.slice none 0 0, .int .i64 0, .int .i64 0, .int .i64 3]) (by simp [results, Try.results34, go_sem]) rfl ⟨rfl, Below.refl _ _⟩
set_option maxHeartbeats 1000000 in
theorem rrp_form2 (w : World) (A : Option Addr) (c : Nat) (l : List Int) (hl : 8 ≤ l.length) (hc : l.length ≤ c) (hC : (Kd.int .u8).C w A l.length l) (hb : B8 l) (hk : l.take 3 = [80, 68, 1]) (hi : ¬ (rd l 3 = 200)) : Calls Try.prog 34 #[.slice A l.length c, .bool true] w (openE w 3) := by
  have h3 : (3 : Int) < (l.length : Int) := by omega
  have h2 : (2 : Int) < (l.length : Int) := by omega
  have h1 : (1 : Int) < (l.length : Int) := by omega
  have h0 : (0 : Int) < (l.length : Int) := by omega
  have h8 : decide ((l.length : Int) < 8) = false := decide_eq_false (by omega)
  have hr := hb.rd 3
  obtain ⟨ad, rfl, k3⟩ := Kd.at_int hC 3 (by decide) (by omega)
  obtain ⟨a0, e0, k0⟩ := Kd.at_int hC 0 (by decide) (by omega)
  obtain ⟨a1, e1, k1⟩ := Kd.at_int hC 1 (by decide) (by omega)
  obtain ⟨a2, e2, k2⟩ := Kd.at_int hC 2 (by decide) (by omega)
  obtain rfl := Option.some.inj e0
  obtain rfl := Option.some.inj e1
  obtain rfl := Option.some.inj e2
  have c0 : w.cell? ad = some (.int .u8 (rd l 0)) := by simpa [Addr.add] using k0
  have c1 : w.cell? ⟨ad.block, ad.off + 1, none⟩ = some (.int .u8 (rd l 1)) := k1
  have c2 : w.cell? ⟨ad.block, ad.off + 2, none⟩ = some (.int .u8 (rd l 2)) := k2
  have c3 : w.cell? ⟨ad.block, ad.off + 3, none⟩ = some (.int .u8 (rd l 3)) := k3
  clear k0 k1 k2 k3 e0 e1 e2
  rw [take3 (by omega)] at hk
  injection hk with p0 hk
  injection hk with p1 hk
  injection hk with p2 hk
  rw [p0] at c0
  rw [p1] at c1
  rw [p2] at c2
  clear p0 p1 p2 hk
  generalize rd l 3 = x at *
  obtain ⟨hx0, hx1⟩ := hr
  clear hC hb
  have q0 : (x != 200) = true := bne_iff_ne.2 hi
  clear hi
  go_enter Try.func34, Try.ntmps34
  go_wp2_with fail
  exact bodyPost_ret (v := .tuple #[.slice none 0 0, .int .i64 0, .int .i64 0, .int .i64 3]) (by simp [results, Try.results34, go_sem]) rfl ⟨rfl, Below.refl _ _⟩
set_option maxHeartbeats 1000000 in
theorem rrp_long (w : World) (A : Option Addr) (c : Nat) (l : List Int) (hl : 8 ≤ l.length) (hc : l.length ≤ c) (hC : (Kd.int .u8).C w A l.length l) (hb : B8 l) (hk : l.take 3 = [80, 68, 1]) (hi : rd l 3 = 200) (hn : 4194304 < V ((l.drop 4).take 4)) : Calls Try.prog 34 #[.slice A l.length c, .bool true] w (openE w 5) := by
  have h3 : (3 : Int) < (l.length : Int) := by omega
  have h2 : (2 : Int) < (l.length : Int) := by omega
  have h1 : (1 : Int) < (l.length : Int) := by omega
  have h0 : (0 : Int) < (l.length : Int) := by omega
  have h8 : decide ((l.length : Int) < 8) = false := decide_eq_false (by omega)
  have hr := hb.rd 3
  obtain ⟨ad, rfl, k3⟩ := Kd.at_int hC 3 (by decide) (by omega)
  obtain ⟨a0, e0, k0⟩ := Kd.at_int hC 0 (by decide) (by omega)
  obtain ⟨a1, e1, k1⟩ := Kd.at_int hC 1 (by decide) (by omega)
  obtain ⟨a2, e2, k2⟩ := Kd.at_int hC 2 (by decide) (by omega)
  obtain rfl := Option.some.inj e0
  obtain rfl := Option.some.inj e1
  obtain rfl := Option.some.inj e2
  have c0 : w.cell? ad = some (.int .u8 (rd l 0)) := by simpa [Addr.add] using k0
  have c1 : w.cell? ⟨ad.block, ad.off + 1, none⟩ = some (.int .u8 (rd l 1)) := k1
  have c2 : w.cell? ⟨ad.block, ad.off + 2, none⟩ = some (.int .u8 (rd l 2)) := k2
  have c3 : w.cell? ⟨ad.block, ad.off + 3, none⟩ = some (.int .u8 (rd l 3)) := k3
  clear k0 k1 k2 k3 e0 e1 e2
  rw [take3 (by omega)] at hk
  injection hk with p0 hk
  injection hk with p1 hk
  injection hk with p2 hk
  rw [p0] at c0
  rw [p1] at c1
  rw [p2] at c2
  clear p0 p1 p2 hk
  generalize rd l 3 = x at *
  obtain ⟨hx0, hx1⟩ := hr
  have f1 : (x != 200) = false := by simp [hi]
  obtain ⟨i0, hi0, _, hsz0, _⟩ := info_parts info5
  obtain ⟨A2, hcut, hA2, hc2⟩ := print_drop_of (P := Try.prog) (Value.int .u8) 0 27 5 .i64 Try.underlying27 hi0 hsz0 (some ad) c l 4 (by decide) (by omega) hc
  have HQ := Aside0.mk (Kd.C_of_reads (h1 := fun _ => rfl) (hA2 w (Kd.reads_of_C hC)))
  have HQC := Aside0.mk hc2
  have HC := Aside0.mk hC
  have HCC := Aside0.mk hc
  clear hA2 hc2 hi0 hsz0
  have hqb := hb.drop 4
  have hq4 : 4 ≤ (l.drop 4).length := by rw [List.length_drop]; omega
  have e4 : ((4 : Int)).toNat = 4 := rfl
  rw [e4] at hcut HQ HQC
  obtain ⟨q, hq⟩ : ∃ q, l.drop 4 = q := ⟨_, rfl⟩
  rw [hq] at hcut HQ HQC hqb hq4 hn
  clear hq e4
  have hrk : rk q false 4 = (q.take 4, q.drop 4, false) := by unfold rk; rw [if_neg (by simp; omega)]
  have htk : r4 q false = V (q.take 4) := by unfold r4; rw [hrk]; rfl
  clear hrk
  have HNUM := Aside0.mk (fun (w1 : World) (g : Nat) (h : RS 78 w w1 g q false) => four_any w w1 g q false h hqb)
  rw [htk] at HNUM
  obtain ⟨n, hnn⟩ : ∃ n, V (q.take 4) = n := ⟨_, rfl⟩
  rw [hnn] at HNUM hn
  clear htk hnn hqb hq4 hC hc hb
  have hn2 : decide ((4194304 : Int) < (n : Int)) = true := decide_eq_true (by omega)
  clear hn hi
  go_enter Try.func34, Try.ntmps34
  go_wp2_with (go_at_call 35; (with_reducible refine (HNUM.out _ _ ?hS).mono ?_); (case hS => exact rs_new78 (by simp) (Below.refl _ _) HQ.out HQC.out); rintro e w3 ⟨rfl, hS3, hK3⟩; have HBN := Aside0.mk (rs_below hS3); clear hS3 hK3 HNUM)
  exact bodyPost_ret (v := .tuple #[.slice none 0 0, .int .i64 0, .int .i64 0, .int .i64 5]) (by simp [results, Try.results34, go_sem]) rfl ⟨rfl, HBN.out⟩
set_option maxHeartbeats 1000000 in
theorem rrp_cut (w : World) (A : Option Addr) (c : Nat) (l : List Int) (hl : 8 ≤ l.length) (hc : l.length ≤ c) (hC : (Kd.int .u8).C w A l.length l) (hb : B8 l) (hk : l.take 3 = [80, 68, 1]) (hi : rd l 3 = 200) (hn : V ((l.drop 4).take 4) ≤ 4194304) (hs : l.length < 8 + V ((l.drop 4).take 4)) : Calls Try.prog 34 #[.slice A l.length c, .bool true] w (openE w 2) := by
  have h3 : (3 : Int) < (l.length : Int) := by omega
  have h2 : (2 : Int) < (l.length : Int) := by omega
  have h1 : (1 : Int) < (l.length : Int) := by omega
  have h0 : (0 : Int) < (l.length : Int) := by omega
  have h8 : decide ((l.length : Int) < 8) = false := decide_eq_false (by omega)
  have hr := hb.rd 3
  obtain ⟨ad, rfl, k3⟩ := Kd.at_int hC 3 (by decide) (by omega)
  obtain ⟨a0, e0, k0⟩ := Kd.at_int hC 0 (by decide) (by omega)
  obtain ⟨a1, e1, k1⟩ := Kd.at_int hC 1 (by decide) (by omega)
  obtain ⟨a2, e2, k2⟩ := Kd.at_int hC 2 (by decide) (by omega)
  obtain rfl := Option.some.inj e0
  obtain rfl := Option.some.inj e1
  obtain rfl := Option.some.inj e2
  have c0 : w.cell? ad = some (.int .u8 (rd l 0)) := by simpa [Addr.add] using k0
  have c1 : w.cell? ⟨ad.block, ad.off + 1, none⟩ = some (.int .u8 (rd l 1)) := k1
  have c2 : w.cell? ⟨ad.block, ad.off + 2, none⟩ = some (.int .u8 (rd l 2)) := k2
  have c3 : w.cell? ⟨ad.block, ad.off + 3, none⟩ = some (.int .u8 (rd l 3)) := k3
  clear k0 k1 k2 k3 e0 e1 e2
  rw [take3 (by omega)] at hk
  injection hk with p0 hk
  injection hk with p1 hk
  injection hk with p2 hk
  rw [p0] at c0
  rw [p1] at c1
  rw [p2] at c2
  clear p0 p1 p2 hk
  generalize rd l 3 = x at *
  obtain ⟨hx0, hx1⟩ := hr
  have f1 : (x != 200) = false := by simp [hi]
  obtain ⟨i0, hi0, _, hsz0, _⟩ := info_parts info5
  obtain ⟨A2, hcut, hA2, hc2⟩ := print_drop_of (P := Try.prog) (Value.int .u8) 0 27 5 .i64 Try.underlying27 hi0 hsz0 (some ad) c l 4 (by decide) (by omega) hc
  have HQ := Aside0.mk (Kd.C_of_reads (h1 := fun _ => rfl) (hA2 w (Kd.reads_of_C hC)))
  have HQC := Aside0.mk hc2
  have HC := Aside0.mk hC
  have HCC := Aside0.mk hc
  clear hA2 hc2 hi0 hsz0
  have hqb := hb.drop 4
  have hq4 : 4 ≤ (l.drop 4).length := by rw [List.length_drop]; omega
  have e4 : ((4 : Int)).toNat = 4 := rfl
  rw [e4] at hcut HQ HQC
  obtain ⟨q, hq⟩ : ∃ q, l.drop 4 = q := ⟨_, rfl⟩
  rw [hq] at hcut HQ HQC hqb hq4 hn hs
  clear hq e4
  have hrk : rk q false 4 = (q.take 4, q.drop 4, false) := by unfold rk; rw [if_neg (by simp; omega)]
  have htk : r4 q false = V (q.take 4) := by unfold r4; rw [hrk]; rfl
  clear hrk
  have HNUM := Aside0.mk (fun (w1 : World) (g : Nat) (h : RS 78 w w1 g q false) => four_any w w1 g q false h hqb)
  rw [htk] at HNUM
  obtain ⟨n, hnn⟩ : ∃ n, V (q.take 4) = n := ⟨_, rfl⟩
  rw [hnn] at HNUM hn hs
  clear htk hnn hqb hq4 hC hc hb
  have hn2 : decide ((4194304 : Int) < (n : Int)) = false := decide_eq_false (by omega)
  have hn3 : decide ((l.length : Int) < 8 + (n : Int)) = true := decide_eq_true (by omega)
  have hn4 : (n : Int) ≤ 4194304 := by omega
  clear hn hs hi
  go_enter Try.func34, Try.ntmps34
  go_wp2_with (go_at_call 35; (with_reducible refine (HNUM.out _ _ ?hS).mono ?_); (case hS => exact rs_new78 (by simp) (Below.refl _ _) HQ.out HQC.out); rintro e w3 ⟨rfl, hS3, hK3⟩; have HBN := Aside0.mk (rs_below hS3); clear hS3 hK3 HNUM)
  exact bodyPost_ret (v := .tuple #[.slice none 0 0, .int .i64 0, .int .i64 0, .int .i64 2]) (by simp [results, Try.results34, go_sem]) rfl ⟨rfl, HBN.out⟩
set_option maxHeartbeats 1000000 in
theorem rrp_ok (w : World) (A : Option Addr) (c : Nat) (l : List Int) (hl : 8 ≤ l.length) (hc : l.length ≤ c) (hC : (Kd.int .u8).C w A l.length l) (hb : B8 l) (hk : l.take 3 = [80, 68, 1]) (hi : rd l 3 = 200) (hn : V ((l.drop 4).take 4) ≤ 4194304) (hs : 8 + V ((l.drop 4).take 4) ≤ l.length) (p : List Int) (hp : (l.take (8 + V ((l.drop 4).take 4))).drop 8 = p) : Calls Try.prog 34 #[.slice A l.length c, .bool true] w fun e w' => ∃ A2 c2, e = .returned (.tuple #[.slice A2 p.length c2, .int .i64 (rd l 3), .int .i64 ((8 + V ((l.drop 4).take 4) : Nat) : Int), .int .i64 0]) ∧ p.length ≤ c2 ∧ (Kd.int .u8).C w A2 p.length p ∧ Below w.heap.size w w' := by
  have h3 : (3 : Int) < (l.length : Int) := by omega
  have h2 : (2 : Int) < (l.length : Int) := by omega
  have h1 : (1 : Int) < (l.length : Int) := by omega
  have h0 : (0 : Int) < (l.length : Int) := by omega
  have h8 : decide ((l.length : Int) < 8) = false := decide_eq_false (by omega)
  have hr := hb.rd 3
  obtain ⟨ad, rfl, k3⟩ := Kd.at_int hC 3 (by decide) (by omega)
  obtain ⟨a0, e0, k0⟩ := Kd.at_int hC 0 (by decide) (by omega)
  obtain ⟨a1, e1, k1⟩ := Kd.at_int hC 1 (by decide) (by omega)
  obtain ⟨a2, e2, k2⟩ := Kd.at_int hC 2 (by decide) (by omega)
  obtain rfl := Option.some.inj e0
  obtain rfl := Option.some.inj e1
  obtain rfl := Option.some.inj e2
  have c0 : w.cell? ad = some (.int .u8 (rd l 0)) := by simpa [Addr.add] using k0
  have c1 : w.cell? ⟨ad.block, ad.off + 1, none⟩ = some (.int .u8 (rd l 1)) := k1
  have c2 : w.cell? ⟨ad.block, ad.off + 2, none⟩ = some (.int .u8 (rd l 2)) := k2
  have c3 : w.cell? ⟨ad.block, ad.off + 3, none⟩ = some (.int .u8 (rd l 3)) := k3
  clear k0 k1 k2 k3 e0 e1 e2
  rw [take3 (by omega)] at hk
  injection hk with p0 hk
  injection hk with p1 hk
  injection hk with p2 hk
  rw [p0] at c0
  rw [p1] at c1
  rw [p2] at c2
  clear p0 p1 p2 hk
  generalize rd l 3 = x at *
  obtain ⟨hx0, hx1⟩ := hr
  have f1 : (x != 200) = false := by simp [hi]
  obtain ⟨i0, hi0, _, hsz0, _⟩ := info_parts info5
  obtain ⟨A2, hcut, hA2, hc2⟩ := print_drop_of (P := Try.prog) (Value.int .u8) 0 27 5 .i64 Try.underlying27 hi0 hsz0 (some ad) c l 4 (by decide) (by omega) hc
  have HQ := Aside0.mk (Kd.C_of_reads (h1 := fun _ => rfl) (hA2 w (Kd.reads_of_C hC)))
  have HQC := Aside0.mk hc2
  have HC := Aside0.mk hC
  have HCC := Aside0.mk hc
  clear hA2 hc2 hi0 hsz0
  have hqb := hb.drop 4
  have hq4 : 4 ≤ (l.drop 4).length := by rw [List.length_drop]; omega
  have e4 : ((4 : Int)).toNat = 4 := rfl
  rw [e4] at hcut HQ HQC
  obtain ⟨q, hq⟩ : ∃ q, l.drop 4 = q := ⟨_, rfl⟩
  rw [hq] at hcut HQ HQC hqb hq4 hn hs hp ⊢
  clear hq e4
  have hrk : rk q false 4 = (q.take 4, q.drop 4, false) := by unfold rk; rw [if_neg (by simp; omega)]
  have htk : r4 q false = V (q.take 4) := by unfold r4; rw [hrk]; rfl
  clear hrk
  have HNUM := Aside0.mk (fun (w1 : World) (g : Nat) (h : RS 78 w w1 g q false) => four_any w w1 g q false h hqb)
  rw [htk] at HNUM
  obtain ⟨n, hnn⟩ : ∃ n, V (q.take 4) = n := ⟨_, rfl⟩
  rw [hnn] at HNUM hn hs hp ⊢
  clear htk hnn hqb hq4 hC hc hb
  have hn2 : decide ((4194304 : Int) < (n : Int)) = false := decide_eq_false (by omega)
  have hn3 : decide ((l.length : Int) < 8 + (n : Int)) = false := decide_eq_false (by omega)
  have hn4 : (n : Int) ≤ 4194304 := by omega
  have hn0 : (0 : Int) ≤ (n : Int) := by omega
  obtain ⟨i1, hi1, _, hsz1, _⟩ := info_parts info5
  obtain ⟨A3, hcut3, hA3, hc3⟩ := print_mid_of (P := Try.prog) (Value.int .u8) 0 27 5 .i64 .i64 Try.underlying27 hi1 hsz1 (some ad) c l 8 ((8 + n : Nat) : Int) (by decide) (by omega) (by omega) HCC.out
  have HC3 := Aside0.mk (Kd.C_of_reads (h1 := fun _ => rfl) (hA3 w (Kd.reads_of_C HC.out)))
  have HCC3 := Aside0.mk hc3
  clear hA3 hc3 hi1 hsz1
  rw [Int.toNat_natCast] at hcut3 HC3 HCC3
  have e8 : ((8 : Int)).toNat = 8 := rfl
  rw [e8] at hcut3 HC3 HCC3
  rw [hp] at hcut3 HC3 HCC3
  clear hp e8
  have e9 : ((8 + n : Nat) : Int) = 8 + (n : Int) := by omega
  rw [e9] at hcut3 ⊢
  clear hn hs e9 hi
  go_enter Try.func34, Try.ntmps34
  go_wp2_with (go_at_call 35; (with_reducible refine (HNUM.out _ _ ?hS).mono ?_); (case hS => exact rs_new78 (by simp) (Below.refl _ _) HQ.out HQC.out); rintro e w3 ⟨rfl, hS3, hK3⟩; have HBN := Aside0.mk (rs_below hS3); clear hS3 hK3 HNUM)
  exact bodyPost_ret (v := .tuple #[.slice A3 p.length _, .int .i64 x, .int .i64 (8 + (n : Int)), .int .i64 0]) (by simp [results, Try.results34, go_sem]) rfl ⟨A3, _, rfl, HCC3.out, HC3.out, HBN.out⟩
end Go.Proofs.Ytoblfdloakkmmaa.Rf
namespace Go.Proofs.Ytoblfdloakkmmaa.Rf
set_option linter.unusedVariables false
set_option linter.unusedSimpArgs false
open Go.RowKit Go.Proofs.Ytoblfdloakkmmaa.Mp Go.Proofs.Ytoblfdloakkmmaa.PL Go.Proofs.Ytoblfdloakkmmaa.Rd Go.Proofs.YtoblfdloakkmmaaW.PrintWords Go.Proofs.YtoblfdloakkmmaaW.PrintLast Go.Proofs.YtoblfdloakkmmaaW.PrintMore
/-- what holds while the numbers are read -/
structure K1 (w wr : World) (g gO : Nat) (kind : Int) (vN : Value) (ns : List Int) (l : List Int) (b : Bool) : Prop where
  obj : wr.heap[gO]? = some (.cells #[.int .i64 kind, vN, .slice none 0 0] 33 (0, 0))
  row : (Kd.int .i64).R 3 wr w.heap.size (fun _ => True) vN ns
  rd : RS 78 w wr g l b
  b8 : B8 l
  bel : Below w.heap.size w wr
  hO : w.heap.size ≤ gO
theorem K1.ne {w wr : World} {g gO : Nat} {kind : Int} {vN : Value} {ns l : List Int} {b : Bool} (h : K1 w wr g gO kind vN ns l b) : gO ≠ g := by
  obtain ⟨cs, hg⟩ := h.rd.blk
  exact blk_ne h.obj hg (by decide)
theorem K1.drew {w wr : World} {g gO : Nat} {kind : Int} {vN : Value} {ns l : List Int} {b : Bool} (h : K1 w wr g gO kind vN ns l b) : K1 w wr.drew g gO kind vN ns l b :=
  ⟨h.obj, Kd.R_drew h.row, rs_drew h.rd, h.b8, below_drew h.bel, h.hO⟩
/-- a reader's step -/
theorem K1.step {w wr w2 : World} {g gO : Nat} {kind : Int} {vN : Value} {ns l l2 : List Int} {b b2 : Bool} (h : K1 w wr g gO kind vN ns l b) (hS : RS 78 w w2 g l2 b2) (hb : B8 l2) (hK : KeepBut wr w2 g none) : K1 w w2 g gO kind vN ns l2 b2 := by
  obtain ⟨cs, hg⟩ := h.rd.blk
  exact ⟨hK.blk h.obj h.ne (by simp), Kd.R_drop (Kd.R_keep (Kd.R_types h.row hg (by decide)) hK (fun _ hk => hk.2)), hS, hb, rs_below hS, h.hO⟩
/-- a number appended, and stored back -/
theorem K1.put {w wr w2 : World} {g gO : Nat} {kind : Int} {vN vN2 : Value} {ns ns2 l : List Int} {b : Bool} (h : K1 w wr g gO kind vN ns l b) (hr : (Kd.int .i64).R 3 w2 w.heap.size (fun _ => True) vN2 ns2) (hg : wr.grownBy w2 vN.ownBlock) (hB : Below w.heap.size w w2) :
    K1 w (w2.setCell ⟨gO, 1, none⟩ vN2) g gO kind vN2 ns2 l b := by
  obtain ⟨cs, hgb⟩ := h.rd.blk
  have hne1 : some gO ≠ vN.ownBlock := Kd.R_ne h.row h.obj (by decide)
  have hne2 : some g ≠ vN.ownBlock := Kd.R_ne h.row hgb (by decide)
  have ho := blk_grown h.obj hg hne1
  refine ⟨by simpa using blk_set ho 1 vN2, Kd.R_set hr ho (by decide) 1 vN2, (h.rd.grown hg hne2 hB).far h.hO (fun e => h.ne e.symm) vN2, h.b8, below_set hB h.hO, h.hO⟩
/-- what holds while the texts are read -/
structure K2 (w wr : World) (g gO : Nat) (kind : Int) (vN vT : Value) (ns : List Int) (ts : List ByteArray) (l : List Int) (b : Bool) : Prop where
  obj : wr.heap[gO]? = some (.cells #[.int .i64 kind, vN, vT] 33 (0, 0))
  rowN : (Kd.int .i64).R 3 wr w.heap.size (fun _ => True) vN ns
  row : Kd.string.R 9 wr w.heap.size (fun _ => True) vT ts
  rd : RS 78 w wr g l b
  b8 : B8 l
  bel : Below w.heap.size w wr
  hO : w.heap.size ≤ gO
theorem K1.two {w wr : World} {g gO : Nat} {kind : Int} {vN : Value} {ns l : List Int} {b : Bool} (h : K1 w wr g gO kind vN ns l b) : K2 w wr g gO kind vN (.slice none 0 0) ns [] l b :=
  ⟨h.obj, h.row, Kd.R_nil _ _ _ _ _, h.rd, h.b8, h.bel, h.hO⟩
theorem K2.ne {w wr : World} {g gO : Nat} {kind : Int} {vN vT : Value} {ns l : List Int} {ts : List ByteArray} {b : Bool} (h : K2 w wr g gO kind vN vT ns ts l b) : gO ≠ g := by
  obtain ⟨cs, hg⟩ := h.rd.blk
  exact blk_ne h.obj hg (by decide)
theorem K2.drew {w wr : World} {g gO : Nat} {kind : Int} {vN vT : Value} {ns l : List Int} {ts : List ByteArray} {b : Bool} (h : K2 w wr g gO kind vN vT ns ts l b) : K2 w wr.drew g gO kind vN vT ns ts l b :=
  ⟨h.obj, Kd.R_drew h.rowN, Kd.R_drew h.row, rs_drew h.rd, h.b8, below_drew h.bel, h.hO⟩
/-- a reader's step -/
theorem K2.step {w wr w2 : World} {g gO : Nat} {kind : Int} {vN vT : Value} {ns l l2 : List Int} {ts : List ByteArray} {b b2 : Bool} (h : K2 w wr g gO kind vN vT ns ts l b) (hS : RS 78 w w2 g l2 b2) (hb : B8 l2) (hK : KeepBut wr w2 g none) : K2 w w2 g gO kind vN vT ns ts l2 b2 := by
  obtain ⟨cs, hg⟩ := h.rd.blk
  exact ⟨hK.blk h.obj h.ne (by simp), Kd.R_drop (Kd.R_keep (Kd.R_types h.rowN hg (by decide)) hK (fun _ hk => hk.2)), Kd.R_drop (Kd.R_keep (Kd.R_types h.row hg (by decide)) hK (fun _ hk => hk.2)), hS, hb, rs_below hS, h.hO⟩
/-- a text appended, and stored back -/
theorem K2.put {w wr w2 : World} {g gO : Nat} {kind : Int} {vN vT vT2 : Value} {ns l : List Int} {ts ts2 : List ByteArray} {b : Bool} (h : K2 w wr g gO kind vN vT ns ts l b) (hr : Kd.string.R 9 w2 w.heap.size (fun _ => True) vT2 ts2) (hg : wr.grownBy w2 vT.ownBlock) (hB : Below w.heap.size w w2) :
    K2 w (w2.setCell ⟨gO, 2, none⟩ vT2) g gO kind vN vT2 ns ts2 l b := by
  obtain ⟨cs, hgb⟩ := h.rd.blk
  have hne1 : some gO ≠ vT.ownBlock := Kd.R_ne h.row h.obj (by decide)
  have hne2 : some g ≠ vT.ownBlock := Kd.R_ne h.row hgb (by decide)
  have ho := blk_grown h.obj hg hne1
  have hN : (Kd.int .i64).R 3 w2 w.heap.size (fun _ => True) vN ns := Kd.R_grown2 h.rowN rfl hg (rows_ne rfl rfl (by decide) h.row h.rowN)
  refine ⟨by simpa using blk_set ho 2 vT2, Kd.R_set hN ho (by decide) 2 vT2, Kd.R_set hr ho (by decide) 2 vT2, (h.rd.grown hg hne2 hB).far h.hO (fun e => h.ne e.symm) vT2, h.b8, below_set hB h.hO, h.hO⟩
end Go.Proofs.Ytoblfdloakkmmaa.Rf
namespace Go.Proofs.Ytoblfdloakkmmaa.Rf
set_option linter.unusedVariables false
set_option linter.unusedSimpArgs false
open Go.RowKit Go.Proofs.Ytoblfdloakkmmaa.Mp Go.Proofs.Ytoblfdloakkmmaa.PL Go.Proofs.Ytoblfdloakkmmaa.Rd Go.Proofs.YtoblfdloakkmmaaW.PrintWords Go.Proofs.YtoblfdloakkmmaaW.PrintLast Go.Proofs.YtoblfdloakkmmaaW.PrintMore
def enl : Nat → List Int → Bool → List Int × List Int × Bool
  | 0, l, b => ([], l, b)
  | k + 1, l, b => (r8 l b :: (enl k (rk l b 8).2.1 (rk l b 8).2.2).1, (enl k (rk l b 8).2.1 (rk l b 8).2.2).2)
def rt (l : List Int) (b : Bool) : ByteArray × List Int × Bool :=
  (strOfNums (rk (rk l b 4).2.1 (rk l b 4).2.2 (r4 l b)).1, (rk (rk l b 4).2.1 (rk l b 4).2.2 (r4 l b)).2)
def etl : Nat → List Int → Bool → List ByteArray × List Int × Bool
  | 0, l, b => ([], l, b)
  | k + 1, l, b => ((rt l b).1 :: (etl k (rt l b).2.1 (rt l b).2.2).1, (etl k (rt l b).2.1 (rt l b).2.2).2)
def refBody (p : List Int) : Bool × List Int × List ByteArray :=
  if 64 < r4 p false then (true, [], [])
  else
    let N := enl (r4 p false) (rk p false 4).2.1 (rk p false 4).2.2
    if 1024 < r4 N.2.1 N.2.2 then (true, [], [])
    else
      let T := etl (r4 N.2.1 N.2.2) (rk N.2.1 N.2.2 4).2.1 (rk N.2.1 N.2.2 4).2.2
      (T.2.2 || decide (0 < T.2.1.length), N.1, T.1)
def refRep (p : List Int) : Bool × Int × Int × List ByteArray × ByteArray :=
  let e := r8 p false
  let s1 := (rk p false 8).2
  let n := r8 s1.1 s1.2
  let s2 := (rk s1.1 s1.2 8).2
  let c := r4 s2.1 s2.2
  let s3 := (rk s2.1 s2.2 4).2
  if e < 0 ∨ 100 < e ∨ 1024 < c then (true, 0, 0, [], ⟨#[]⟩)
  else
    let T := etl c s3.1 s3.2
    let t := rt T.2.1 T.2.2
    (t.2.2 || decide (0 < t.2.1.length), e, n, T.1, t.1)
theorem rk_tk (l : List Int) (b : Bool) (m : Nat) : (rk l b m).2 = (tk l b m).2 ∧ ((tk l b m).2.2 = false → (rk l b m).1 = (tk l b m).1) ∧ ((tk l b m).2.2 = true → (rk l b m).1 = []) := by
  unfold rk tk
  split
  · exact ⟨rfl, fun h => (by cases h), fun _ => rfl⟩
  · exact ⟨rfl, fun _ => rfl, fun h => (by cases h)⟩
theorem tk_true (l : List Int) (m : Nat) : (tk l true m).2 = (l, true) := by unfold tk; rw [if_pos (.inl rfl)]
theorem r4_eq (l : List Int) (b : Bool) : r4 l b = if (tk l b 4).2.2 = true then 0 else V (tk l b 4).1 := by
  obtain ⟨h1, h2, -⟩ := rk_tk l b 4
  unfold r4
  rw [h1]
  by_cases h : (tk l b 4).2.2 = true
  · rw [if_pos h, if_pos h]
  · rw [if_neg h, if_neg h, h2 (by simpa using h)]
theorem r8_eq (l : List Int) (b : Bool) : r8 l b = if (tk l b 8).2.2 = true then 0 else IntKind.i64.wrap ((V (tk l b 8).1 : Nat) : Int) := by
  obtain ⟨h1, h2, -⟩ := rk_tk l b 8
  unfold r8
  rw [h1]
  by_cases h : (tk l b 8).2.2 = true
  · rw [if_pos h, if_pos h]
  · rw [if_neg h, if_neg h, h2 (by simpa using h)]
theorem nl_true (n : Nat) (l : List Int) : (nl n l true).2 = (l, true) := by
  induction n generalizing l with
  | zero => rfl
  | succ n ih => rw [nl, tk_true]; exact ih l
theorem tx_true (l : List Int) : (tx l true).2 = (l, true) := by
  unfold tx Rd.up
  simp only [tk_true, Bool.true_or]
theorem tl_true (n : Nat) (l : List Int) : (tl n l true).2 = (l, true) := by
  induction n generalizing l with
  | zero => rfl
  | succ n ih => rw [tl, tx_true]; exact ih l
theorem enl_nl : ∀ (n : Nat) (l : List Int) (b : Bool), (enl n l b).2 = (nl n l b).2 ∧ ((nl n l b).2.2 = false → (enl n l b).1 = (nl n l b).1) := by
  intro n
  induction n with
  | zero => intro l b; exact ⟨rfl, fun _ => rfl⟩
  | succ n ih =>
    intro l b
    have h1 := (rk_tk l b 8).1
    obtain ⟨h2, h3⟩ := ih (tk l b 8).2.1 (tk l b 8).2.2
    rw [enl, nl, h1]
    refine ⟨h2, fun hf => ?_⟩
    have hb : (tk l b 8).2.2 = false := by
      cases hq : (tk l b 8).2.2 with
      | false => rfl
      | true =>
        exfalso
        have hf' : (nl n (tk l b 8).2.1 (tk l b 8).2.2).2.2 = false := hf
        rw [hq, nl_true] at hf'
        cases hf'
    show r8 l b :: _ = _ :: _
    rw [r8_eq, if_neg (by rw [hb]; decide), h3 hf]
theorem rt_tx (l : List Int) (b : Bool) (hl : l.length ≤ 4194304) : rt l b = tx l b := by
  have h1 := (rk_tk l b 4).1
  have hlen := (tk_len l b 4).2
  unfold rt tx Rd.up
  rw [r4_eq, h1]
  simp only
  by_cases hb : (tk l b 4).2.2 = true
  · rw [if_pos hb, hb]
    simp only [Bool.true_or, if_true, tk_true]
    have hr : rk (tk l b 4).2.1 true 0 = ([], (tk l b 4).2.1, true) := by unfold rk; rw [if_pos (.inl rfl)]
    rw [hr]
    rfl
  · have hb' : (tk l b 4).2.2 = false := by simpa using hb
    rw [if_neg hb, hb']
    simp only [Bool.false_or, decide_eq_true_eq]
    generalize V (tk l b 4).1 = v
    generalize (tk l b 4).2.1 = r at *
    by_cases hv : 4194304 < v
    · rw [if_pos hv, decide_eq_true hv]
      have hr : rk r false v = ([], r, true) := by unfold rk; rw [if_pos (.inr (by omega))]
      rw [hr, tk_true]
      rfl
    · rw [if_neg hv, decide_eq_false hv]
      obtain ⟨k1, k2, k3⟩ := rk_tk r false v
      rw [k1]
      by_cases hq : (tk r false v).2.2 = true
      · rw [if_pos hq, k3 hq]; rfl
      · rw [if_neg hq, k2 (by simpa using hq)]
theorem tx_len (l : List Int) (b : Bool) : (tx l b).2.1.length ≤ l.length := by
  unfold tx Rd.up
  simp only
  exact Nat.le_trans (tk_len _ _ _).2 (tk_len _ _ _).2
theorem etl_tl : ∀ (n : Nat) (l : List Int) (b : Bool), l.length ≤ 4194304 → etl n l b = tl n l b := by
  intro n
  induction n with
  | zero => intro l b _; rfl
  | succ n ih =>
    intro l b hl
    rw [etl, tl, rt_tx l b hl, ih _ _ (Nat.le_trans (tx_len l b) hl)]
theorem nl_len (n : Nat) (l : List Int) (b : Bool) : (nl n l b).2.1.length ≤ l.length := by
  induction n generalizing l b with
  | zero => exact Nat.le_refl _
  | succ n ih => rw [nl]; exact Nat.le_trans (ih _ _) (tk_len _ _ _).2
theorem tl_len (n : Nat) (l : List Int) (b : Bool) : (tl n l b).2.1.length ≤ l.length := by
  induction n generalizing l b with
  | zero => exact Nat.le_refl _
  | succ n ih => rw [tl]; exact Nat.le_trans (ih _ _) (tx_len _ _)
theorem up_of (l : List Int) (b : Bool) (m : Nat) : (64 < r4 l b → True) ∧ (m < r4 l b → (Rd.up l b m).2.2 = true) ∧ (¬ m < r4 l b → (Rd.up l b m).1 = r4 l b ∧ (Rd.up l b m).2 = (tk l b 4).2) := by
  refine ⟨fun _ => trivial, fun h => ?_, fun h => ?_⟩
  · rw [r4_eq] at h
    split at h
    · omega
    · unfold Rd.up; simp only; rw [decide_eq_true h, Bool.or_true]
  · rw [r4_eq] at h ⊢
    unfold Rd.up
    by_cases hb : (tk l b 4).2.2 = true
    · rw [if_pos hb]
      simp only [hb, Bool.true_or, if_true]
      exact ⟨trivial, Prod.ext rfl hb.symm⟩
    · rw [if_neg hb] at h ⊢
      have hb' : (tk l b 4).2.2 = false := by simpa using hb
      simp only [hb', decide_eq_false h, Bool.false_or]
      exact ⟨if_neg (by decide), Prod.ext rfl hb'.symm⟩
theorem body_eq (p : List Int) (hp : p.length ≤ 4194304) : (refBody p).1 = (decBody p).1 ∧ ((decBody p).1 = false → refBody p = decBody p) := by
  have hk := (rk_tk p false 4).1
  obtain ⟨-, u1, u2⟩ := up_of p false 64
  unfold refBody decBody
  rw [hk]
  simp only
  by_cases h1 : 64 < r4 p false
  · rw [if_pos h1, u1 h1, nl_true]
    have hb : (Rd.up (Rd.up p false 64).2.1 true 1024).2.2 = true := by unfold Rd.up; simp only [tk_true, Bool.true_or]
    simp only
    rw [hb, tl_true]
    exact ⟨rfl, fun h => by cases h⟩
  · rw [if_neg h1, (u2 h1).1, (u2 h1).2]
    have hl4 := (tk_len p false 4).2
    obtain ⟨e1, e2⟩ := enl_nl (r4 p false) (tk p false 4).2.1 (tk p false 4).2.2
    have hnl := nl_len (r4 p false) (tk p false 4).2.1 (tk p false 4).2.2
    rw [e1]
    generalize hNN : nl (r4 p false) (tk p false 4).2.1 (tk p false 4).2.2 = N at *
    generalize hEE : (enl (r4 p false) (tk p false 4).2.1 (tk p false 4).2.2).1 = E at *
    have hk2 := (rk_tk N.2.1 N.2.2 4).1
    obtain ⟨-, v1, v2⟩ := up_of N.2.1 N.2.2 1024
    by_cases h2 : 1024 < r4 N.2.1 N.2.2
    · rw [if_pos h2, v1 h2, tl_true]
      exact ⟨rfl, fun h => by cases h⟩
    · rw [if_neg h2, (v2 h2).1, (v2 h2).2, hk2]
      have hl5 := (tk_len N.2.1 N.2.2 4).2
      rw [etl_tl _ _ _ (by omega)]
      refine ⟨rfl, fun hf => ?_⟩
      have hN2 : N.2.2 = false := by
        cases hq : N.2.2 with
        | false => rfl
        | true =>
          exfalso
          rw [hq] at hf
          have : (tk N.2.1 true 4).2.2 = true := by rw [tk_true]
          rw [this, tl_true] at hf
          cases hf
      rw [e2 hN2]
end Go.Proofs.Ytoblfdloakkmmaa.Rf
