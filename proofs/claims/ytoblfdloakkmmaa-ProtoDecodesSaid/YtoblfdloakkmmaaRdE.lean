/- proto's frames opened: replies. Own work. -/
import Derived.Test.YtoblfdloakkmmaaRdD
namespace Go.Proofs.Ytoblfdloakkmmaa.Rd
set_option linter.unusedVariables false
set_option linter.unusedSimpArgs false
open Go.RowKit Go.Proofs.Ytoblfdloakkmmaa.Mp Go.Proofs.Ytoblfdloakkmmaa.PL Go.Proofs.YtoblfdloakkmmaaW.PrintWords Go.Proofs.YtoblfdloakkmmaaW.PrintLast Go.Proofs.YtoblfdloakkmmaaW.PrintMore


/-- the kinds that are let by (function 38) -/
def is38 (k : Int) : Bool := k == 200
set_option maxHeartbeats 1000000 in
theorem is38_any (k : Int) (w : World) : Calls Try.prog 38 #[.int .i64 k] w fun e w' => e = .returned (.bool (is38 k)) ∧ w' = w := by
  unfold is38
  by_cases h1 : k = 200
  · subst h1
    go_enter Try.func38, Try.ntmps38
    go_wp2
    go_ret
    exact ⟨rfl, rfl⟩
  · have h2 : (k == 200) = false := by simpa using h1
    rw [h2]
    go_enter Try.func38, Try.ntmps38
    go_wp2
    go_ret
    exact ⟨rfl, rfl⟩
set_option maxHeartbeats 400000 in
theorem open38_short (w : World) (A : Option Addr) (c : Nat) (l : List Int) (hl : l.length < 8) :
    Calls Try.prog 29 #[.slice A l.length c, .func (.func 38) #[] #[]] w fun e w' => e = .returned (.tuple #[.int .i64 0, .pointer none, .int .i64 0, .int .i64 2]) ∧ w' = w := by
  have h8 : (l.length : Int) < 8 := by omega
  go_enter Try.func29, Try.ntmps29
  go_wp2
  exact bodyPost_ret (v := .tuple #[.int .i64 0, .pointer none, .int .i64 0, .int .i64 2]) (by simp [results, Try.results29, go_sem]) rfl ⟨rfl, rfl⟩
set_option maxHeartbeats 400000 in
theorem open38_form1 (w : World) (A : Option Addr) (c : Nat) (l : List Int) (hl : 8 ≤ l.length) (hc : l.length ≤ c) (hC : (Kd.int .u8).C w A l.length l) (hb : B8 l) (hk : l.take 3 ≠ [80, 68, 1]) :
    Calls Try.prog 29 #[.slice A l.length c, .func (.func 38) #[] #[]] w fun e w' => e = .returned (.tuple #[.int .i64 0, .pointer none, .int .i64 0, .int .i64 3]) ∧ Below w.heap.size w w' := by
  have h8 : ¬ (l.length : Int) < 8 := by omega
  have h3 : (3 : Int) < (l.length : Int) := by omega
  have hp := hasPrefix_f l hb (by omega)
  rw [decide_eq_false hk] at hp
  have HP := Aside0.mk hp
  have HC := Aside0.mk hC
  have HCC := Aside0.mk hc
  obtain ⟨ad, rfl, hcell0⟩ := Kd.at_int hC 3 (by decide) (by omega)
  have hcell : w.cell? ⟨ad.block, ad.off + 3, none⟩ = some (.int .u8 (rd l 3)) := hcell0
  clear hcell0
  clear hp hC hk hc
  go_enter Try.func29, Try.ntmps29
  go_wp2_with (first | (go_at_call 41; refine (bytes_HasPrefix.calls _ _ l (some ⟨w.heap.size, 0, none⟩) 3 [80, 68, 1] false _ (Kd.C_alloc HC.out _) HCC.out (lit_reads w) (Nat.le_refl _) HP.out).mono ?_; rintro e w1 ⟨rfl, hd⟩; obtain ⟨nd, rfl⟩ := hd.out; clear HP))
  exact bodyPost_ret (v := .tuple #[.int .i64 0, .pointer none, .int .i64 0, .int .i64 3]) (by simp [results, Try.results29, go_sem]) rfl ⟨rfl, by repeat (first | exact Below.refl _ _ | apply below_alloc | apply pw_below_drewN)⟩
set_option maxHeartbeats 400000 in
theorem open38_form2 (w : World) (A : Option Addr) (c : Nat) (l : List Int) (hl : 8 ≤ l.length) (hc : l.length ≤ c) (hC : (Kd.int .u8).C w A l.length l) (hb : B8 l) (hk : l.take 3 = [80, 68, 1]) (hi : is38 (rd l 3) = false) :
    Calls Try.prog 29 #[.slice A l.length c, .func (.func 38) #[] #[]] w fun e w' => e = .returned (.tuple #[.int .i64 0, .pointer none, .int .i64 0, .int .i64 3]) ∧ Below w.heap.size w w' := by
  have h8 : ¬ (l.length : Int) < 8 := by omega
  have h3 : (3 : Int) < (l.length : Int) := by omega
  have hp := hasPrefix_f l hb (by omega)
  rw [decide_eq_true hk] at hp
  have HP := Aside0.mk hp
  have HC := Aside0.mk hC
  have HCC := Aside0.mk hc
  have HI := Aside0.mk hi
  have hr := hb.rd 3
  obtain ⟨ad, rfl, hcell0⟩ := Kd.at_int hC 3 (by decide) (by omega)
  have hcell : w.cell? ⟨ad.block, ad.off + 3, none⟩ = some (.int .u8 (rd l 3)) := hcell0
  clear hcell0
  generalize rd l 3 = x at *
  obtain ⟨hx0, hx1⟩ := hr
  clear hp hC hk hc hi
  go_enter Try.func29, Try.ntmps29
  go_wp2_with (first | (go_at_call 41; refine (bytes_HasPrefix.calls _ _ l (some ⟨w.heap.size, 0, none⟩) 3 [80, 68, 1] true _ (Kd.C_alloc HC.out _) HCC.out (lit_reads w) (Nat.le_refl _) HP.out).mono ?_; rintro e w1 ⟨rfl, hd⟩; obtain ⟨nd, rfl⟩ := hd.out; clear HP) | (go_at_call 38; refine (is38_any x _).mono ?_; rintro e w2 ⟨rfl, rfl⟩; rw [HI.out]))
  exact bodyPost_ret (v := .tuple #[.int .i64 0, .pointer none, .int .i64 0, .int .i64 3]) (by simp [results, Try.results29, go_sem]) rfl ⟨rfl, by repeat (first | exact Below.refl _ _ | apply below_alloc | apply pw_below_drewN)⟩
set_option maxHeartbeats 400000 in
theorem open38_long (w : World) (A : Option Addr) (c : Nat) (l : List Int) (hl : 8 ≤ l.length) (hc : l.length ≤ c) (hC : (Kd.int .u8).C w A l.length l) (hb : B8 l) (hk : l.take 3 = [80, 68, 1]) (hi : is38 (rd l 3) = true) (hn : 4194304 < V ((l.drop 4).take 4)) :
    Calls Try.prog 29 #[.slice A l.length c, .func (.func 38) #[] #[]] w fun e w' => e = .returned (.tuple #[.int .i64 0, .pointer none, .int .i64 0, .int .i64 5]) ∧ Below w.heap.size w w' := by
  have h8 : ¬ (l.length : Int) < 8 := by omega
  have h3 : (3 : Int) < (l.length : Int) := by omega
  have hp := hasPrefix_f l hb (by omega)
  rw [decide_eq_true hk] at hp
  have HP := Aside0.mk hp
  have HC := Aside0.mk hC
  have HCC := Aside0.mk hc
  have HI := Aside0.mk hi
  have hr := hb.rd 3
  obtain ⟨i0, hi0, _, hsz0, _⟩ := info_parts info5
  obtain ⟨A2, hcut, hA2, hc2⟩ := print_drop_of (P := Try.prog) (Value.int .u8) 0 27 5 .i64 Try.underlying27 hi0 hsz0 A c l 4 (by decide) (by omega) hc
  have HQ := Aside0.mk (Kd.C_of_reads (h1 := fun _ => rfl) (hA2 w (Kd.reads_of_C hC)))
  have HQC := Aside0.mk hc2
  clear hA2 hc2 hi0 hsz0
  have hqb := hb.drop 4
  have hq4 : 4 ≤ (l.drop 4).length := by rw [List.length_drop]; omega
  have e4 : ((4 : Int)).toNat = 4 := rfl
  rw [e4] at hcut HQ HQC
  obtain ⟨q, hq⟩ : ∃ q, l.drop 4 = q := ⟨_, rfl⟩
  rw [hq] at hcut HQ HQC hqb hq4 hn
  clear hq e4
  have htk : tk q false 4 = (q.take 4, q.drop 4, false) := by unfold tk; rw [if_neg (by simp; omega)]
  have HNUM := Aside0.mk (show ∀ (w1 : World) (g : Nat), RS 73 w w1 g q false → Calls Try.prog 32 #[.pointer (some ⟨g, 0, none⟩), .int .i64 4] w1 fun e w' => e = .returned (.int .u64 ((V (tk q false 4).1 : Nat) : Int)) ∧ RS 73 w w' g (tk q false 4).2.1 (tk q false 4).2.2 ∧ KeepBut w1 w' g none from fun w1 g h => number_any w w1 g 4 q false h (by omega) hqb)
  rw [htk] at HNUM
  simp only at HNUM
  obtain ⟨n, hnn⟩ : ∃ n, V (q.take 4) = n := ⟨_, rfl⟩
  rw [hnn] at HNUM hn
  clear htk hnn hqb hq4
  obtain ⟨ad, rfl, hcell0⟩ := Kd.at_int hC 3 (by decide) (by omega)
  have hcell : w.cell? ⟨ad.block, ad.off + 3, none⟩ = some (.int .u8 (rd l 3)) := hcell0
  clear hcell0
  generalize rd l 3 = x at *
  obtain ⟨hx0, hx1⟩ := hr
  clear hp hC hk hc hi
  have hn2 : (4194304 : Int) < (n : Int) := by omega
  clear hn
  go_enter Try.func29, Try.ntmps29
  go_wp2_with (first | (go_at_call 41; refine (bytes_HasPrefix.calls _ _ l (some ⟨w.heap.size, 0, none⟩) 3 [80, 68, 1] true _ (Kd.C_alloc HC.out _) HCC.out (lit_reads w) (Nat.le_refl _) HP.out).mono ?_; rintro e w1 ⟨rfl, hd⟩; obtain ⟨nd, rfl⟩ := hd.out; clear HP) | (go_at_call 38; refine (is38_any x _).mono ?_; rintro e w2 ⟨rfl, rfl⟩; rw [HI.out]) | (go_at_call 32; (with_reducible refine (HNUM.out _ _ ?hS).mono ?_); (case hS => exact rs_new (by simp) (by repeat (first | exact Below.refl _ _ | apply below_alloc | apply pw_below_drewN)) HQ.out HQC.out); rintro e w3 ⟨rfl, hS3, hK3⟩; have HBN := Aside0.mk (rs_below hS3); clear hS3 hK3 HNUM HQ HQC))
  exact bodyPost_ret (v := .tuple #[.int .i64 0, .pointer none, .int .i64 0, .int .i64 5]) (by simp [results, Try.results29, go_sem]) rfl ⟨rfl, HBN.out⟩
set_option maxHeartbeats 400000 in
theorem open38_cut (w : World) (A : Option Addr) (c : Nat) (l : List Int) (hl : 8 ≤ l.length) (hc : l.length ≤ c) (hC : (Kd.int .u8).C w A l.length l) (hb : B8 l) (hk : l.take 3 = [80, 68, 1]) (hi : is38 (rd l 3) = true) (hn : V ((l.drop 4).take 4) ≤ 4194304) (hs : l.length < 8 + V ((l.drop 4).take 4)) (hlm : l.length ≤ 9223372036854775807) :
    Calls Try.prog 29 #[.slice A l.length c, .func (.func 38) #[] #[]] w fun e w' => e = .returned (.tuple #[.int .i64 0, .pointer none, .int .i64 0, .int .i64 2]) ∧ Below w.heap.size w w' := by
  have h8 : ¬ (l.length : Int) < 8 := by omega
  have h3 : (3 : Int) < (l.length : Int) := by omega
  have hp := hasPrefix_f l hb (by omega)
  rw [decide_eq_true hk] at hp
  have HP := Aside0.mk hp
  have HC := Aside0.mk hC
  have HCC := Aside0.mk hc
  have HI := Aside0.mk hi
  have hr := hb.rd 3
  obtain ⟨i0, hi0, _, hsz0, _⟩ := info_parts info5
  obtain ⟨A2, hcut, hA2, hc2⟩ := print_drop_of (P := Try.prog) (Value.int .u8) 0 27 5 .i64 Try.underlying27 hi0 hsz0 A c l 4 (by decide) (by omega) hc
  have HQ := Aside0.mk (Kd.C_of_reads (h1 := fun _ => rfl) (hA2 w (Kd.reads_of_C hC)))
  have HQC := Aside0.mk hc2
  clear hA2 hc2 hi0 hsz0
  have hqb := hb.drop 4
  have hq4 : 4 ≤ (l.drop 4).length := by rw [List.length_drop]; omega
  have e4 : ((4 : Int)).toNat = 4 := rfl
  rw [e4] at hcut HQ HQC
  obtain ⟨q, hq⟩ : ∃ q, l.drop 4 = q := ⟨_, rfl⟩
  rw [hq] at hcut HQ HQC hqb hq4 hn hs
  clear hq e4
  have htk : tk q false 4 = (q.take 4, q.drop 4, false) := by unfold tk; rw [if_neg (by simp; omega)]
  have HNUM := Aside0.mk (show ∀ (w1 : World) (g : Nat), RS 73 w w1 g q false → Calls Try.prog 32 #[.pointer (some ⟨g, 0, none⟩), .int .i64 4] w1 fun e w' => e = .returned (.int .u64 ((V (tk q false 4).1 : Nat) : Int)) ∧ RS 73 w w' g (tk q false 4).2.1 (tk q false 4).2.2 ∧ KeepBut w1 w' g none from fun w1 g h => number_any w w1 g 4 q false h (by omega) hqb)
  rw [htk] at HNUM
  simp only at HNUM
  obtain ⟨n, hnn⟩ : ∃ n, V (q.take 4) = n := ⟨_, rfl⟩
  rw [hnn] at HNUM hn hs
  clear htk hnn hqb hq4
  obtain ⟨ad, rfl, hcell0⟩ := Kd.at_int hC 3 (by decide) (by omega)
  have hcell : w.cell? ⟨ad.block, ad.off + 3, none⟩ = some (.int .u8 (rd l 3)) := hcell0
  clear hcell0
  generalize rd l 3 = x at *
  obtain ⟨hx0, hx1⟩ := hr
  clear hp hC hk hc hi
  have hn2 : ¬ (4194304 : Int) < (n : Int) := by omega
  have hn3 : (l.length : Int) - 8 < (n : Int) := by omega
  have hl8 : (8 : Int) ≤ (l.length : Int) := by omega
  have hn4 : (n : Int) ≤ 4194304 := by omega
  clear hn hs
  go_enter Try.func29, Try.ntmps29
  go_wp2_with (first | (go_at_call 41; refine (bytes_HasPrefix.calls _ _ l (some ⟨w.heap.size, 0, none⟩) 3 [80, 68, 1] true _ (Kd.C_alloc HC.out _) HCC.out (lit_reads w) (Nat.le_refl _) HP.out).mono ?_; rintro e w1 ⟨rfl, hd⟩; obtain ⟨nd, rfl⟩ := hd.out; clear HP) | (go_at_call 38; refine (is38_any x _).mono ?_; rintro e w2 ⟨rfl, rfl⟩; rw [HI.out]) | (go_at_call 32; (with_reducible refine (HNUM.out _ _ ?hS).mono ?_); (case hS => exact rs_new (by simp) (by repeat (first | exact Below.refl _ _ | apply below_alloc | apply pw_below_drewN)) HQ.out HQC.out); rintro e w3 ⟨rfl, hS3, hK3⟩; have HBN := Aside0.mk (rs_below hS3); clear hS3 hK3 HNUM HQ HQC))
  exact bodyPost_ret (v := .tuple #[.int .i64 0, .pointer none, .int .i64 0, .int .i64 2]) (by simp [results, Try.results29, go_sem]) rfl ⟨rfl, HBN.out⟩
set_option maxHeartbeats 400000 in
theorem open38_ok (w : World) (A : Option Addr) (c : Nat) (l : List Int) (hl : 8 ≤ l.length) (hc : l.length ≤ c) (hC : (Kd.int .u8).C w A l.length l) (hb : B8 l) (hk : l.take 3 = [80, 68, 1]) (hi : is38 (rd l 3) = true) (hn : V ((l.drop 4).take 4) ≤ 4194304) (hs : 8 + V ((l.drop 4).take 4) ≤ l.length) (hlm : l.length ≤ 9223372036854775807) :
    Calls Try.prog 29 #[.slice A l.length c, .func (.func 38) #[] #[]] w fun e w' => ∃ g, e = .returned (.tuple #[.int .i64 (rd l 3), .pointer (some ⟨g, 0, none⟩), .int .i64 ((8 + V ((l.drop 4).take 4) : Nat) : Int), .int .i64 0]) ∧
      RS 73 w w' g ((l.take (8 + V ((l.drop 4).take 4))).drop 8) false ∧ w.heap.size ≤ g ∧ g < w'.heap.size := by
  have h8 : ¬ (l.length : Int) < 8 := by omega
  have h3 : (3 : Int) < (l.length : Int) := by omega
  have hp := hasPrefix_f l hb (by omega)
  rw [decide_eq_true hk] at hp
  have HP := Aside0.mk hp
  have HC := Aside0.mk hC
  have HCC := Aside0.mk hc
  have HI := Aside0.mk hi
  have hr := hb.rd 3
  obtain ⟨i0, hi0, _, hsz0, _⟩ := info_parts info5
  obtain ⟨A2, hcut, hA2, hc2⟩ := print_drop_of (P := Try.prog) (Value.int .u8) 0 27 5 .i64 Try.underlying27 hi0 hsz0 A c l 4 (by decide) (by omega) hc
  have HQ := Aside0.mk (Kd.C_of_reads (h1 := fun _ => rfl) (hA2 w (Kd.reads_of_C hC)))
  have HQC := Aside0.mk hc2
  clear hA2 hc2 hi0 hsz0
  have hqb := hb.drop 4
  have hq4 : 4 ≤ (l.drop 4).length := by rw [List.length_drop]; omega
  have e4 : ((4 : Int)).toNat = 4 := rfl
  rw [e4] at hcut HQ HQC
  obtain ⟨q, hq⟩ : ∃ q, l.drop 4 = q := ⟨_, rfl⟩
  rw [hq] at hcut HQ HQC hqb hq4 hn hs ⊢
  clear hq e4
  have htk : tk q false 4 = (q.take 4, q.drop 4, false) := by unfold tk; rw [if_neg (by simp; omega)]
  have HNUM := Aside0.mk (show ∀ (w1 : World) (g : Nat), RS 73 w w1 g q false → Calls Try.prog 32 #[.pointer (some ⟨g, 0, none⟩), .int .i64 4] w1 fun e w' => e = .returned (.int .u64 ((V (tk q false 4).1 : Nat) : Int)) ∧ RS 73 w w' g (tk q false 4).2.1 (tk q false 4).2.2 ∧ KeepBut w1 w' g none from fun w1 g h => number_any w w1 g 4 q false h (by omega) hqb)
  rw [htk] at HNUM
  simp only at HNUM
  obtain ⟨n, hnn⟩ : ∃ n, V (q.take 4) = n := ⟨_, rfl⟩
  rw [hnn] at HNUM hn hs ⊢
  clear htk hnn hqb hq4
  obtain ⟨ad, rfl, hcell0⟩ := Kd.at_int hC 3 (by decide) (by omega)
  have hcell : w.cell? ⟨ad.block, ad.off + 3, none⟩ = some (.int .u8 (rd l 3)) := hcell0
  clear hcell0
  generalize rd l 3 = x at *
  obtain ⟨hx0, hx1⟩ := hr
  clear hp hC hk hc hi
  have hn2 : ¬ (4194304 : Int) < (n : Int) := by omega
  have hn3 : ¬ (l.length : Int) - 8 < (n : Int) := by omega
  have hn4 : (n : Int) ≤ 4194304 := by omega
  have hn0 : (0 : Int) ≤ (n : Int) := by omega
  have hl8 : (8 : Int) ≤ (l.length : Int) := by omega
  have hn5 : (8 : Int) + (n : Int) ≤ (l.length : Int) := by omega
  obtain ⟨i1, hi1, _, hsz1, _⟩ := info_parts info5
  obtain ⟨A3, hcut3, hA3, hc3⟩ := print_mid_of (P := Try.prog) (Value.int .u8) 0 27 5 .i64 .i64 Try.underlying27 hi1 hsz1 (some ad) c l 8 ((8 + n : Nat) : Int) (by decide) (by omega) (by omega) HCC.out
  have HC3 := Aside0.mk (Kd.C_of_reads (h1 := fun _ => rfl) (hA3 w (Kd.reads_of_C HC.out)))
  have HCC3 := Aside0.mk hc3
  clear hA3 hc3 hi1 hsz1
  rw [Int.toNat_natCast] at hcut3 HC3 HCC3
  have e8 : ((8 : Int)).toNat = 8 := rfl
  rw [e8] at hcut3 HC3 HCC3
  obtain ⟨p, hp⟩ : ∃ p, (l.take (8 + n)).drop 8 = p := ⟨_, rfl⟩
  rw [hp] at hcut3 HC3 HCC3 ⊢
  clear hp e8
  have e9 : ((8 + n : Nat) : Int) = 8 + (n : Int) := by omega
  rw [e9] at hcut3 ⊢
  clear hn hs e9
  go_enter Try.func29, Try.ntmps29
  go_wp2_with (first | (go_at_call 41; refine (bytes_HasPrefix.calls _ _ l (some ⟨w.heap.size, 0, none⟩) 3 [80, 68, 1] true _ (Kd.C_alloc HC.out _) HCC.out (lit_reads w) (Nat.le_refl _) HP.out).mono ?_; rintro e w1 ⟨rfl, hd⟩; obtain ⟨nd, rfl⟩ := hd.out; clear HP) | (go_at_call 38; refine (is38_any x _).mono ?_; rintro e w2 ⟨rfl, rfl⟩; rw [HI.out]) | (go_at_call 32; (with_reducible refine (HNUM.out _ _ ?hS).mono ?_); (case hS => exact rs_new (by simp) (by repeat (first | exact Below.refl _ _ | apply below_alloc | apply pw_below_drewN)) HQ.out HQC.out); rintro e w3 ⟨rfl, hS3, hK3⟩; have HBN := Aside0.mk (rs_below hS3); clear hS3 hK3 HNUM HQ HQC))
  clear hcut
  go_region
  go_wp2
  exact bodyPost_ret (v := .tuple #[.int .i64 x, .pointer (some ⟨w3.heap.size, 0, none⟩), .int .i64 (8 + (n : Int)), .int .i64 0]) (by simp [results, Try.results29, go_sem]) rfl ⟨w3.heap.size, rfl, rs_drew (rs_new rfl HBN.out HC3.out HCC3.out), HBN.out.size, by simp⟩
end Go.Proofs.Ytoblfdloakkmmaa.Rd
