/- pantryref26's reader: raw, four, eight. Own work. -/
import Derived.Test.YtoblfdloakkmmaaRdJ
import Derived.Deep.RegionLaw
import Derived.Outline
namespace Go.Proofs.Ytoblfdloakkmmaa.Rf
set_option linter.unusedVariables false
set_option linter.unusedSimpArgs false
open Go.RowKit Go.Proofs.Ytoblfdloakkmmaa.Mp Go.Proofs.Ytoblfdloakkmmaa.PL Go.Proofs.Ytoblfdloakkmmaa.Rd Go.Proofs.YtoblfdloakkmmaaW.PrintWords Go.Proofs.YtoblfdloakkmmaaW.PrintLast Go.Proofs.YtoblfdloakkmmaaW.PrintMore

/-- the next m bytes, what is left, and whether it is bad -/
def rk (l : List Int) (bad : Bool) (m : Nat) : List Int × List Int × Bool := if bad = true ∨ l.length < m then ([], l, true) else (l.take m, l.drop m, false)
set_option maxHeartbeats 1000000 in
theorem raw_ok (g : Nat) (A : Option Addr) (c m : Nat) (l : List Int) (w : World) (hI : Rd 78 w g A c l false) (hc : l.length ≤ c) (hm : m ≤ l.length) :
    Calls Try.prog 37 #[.pointer (some ⟨g, 0, none⟩), .int .i64 (m : Int)] w fun e w' => e = .returned (.slice A (l.take m).length c) ∧
      ∃ A2, w' = w.setCell ⟨g, 0, none⟩ (.slice A2 (l.drop m).length (c - m)) ∧ (∀ W : World, (Kd.int .u8).C W A l.length l → (Kd.int .u8).C W A2 (l.drop m).length (l.drop m)) := by
  have h0 := hI.c0
  have h1 := hI.c1
  have h2 := hI.fr 0
  obtain ⟨i0, hi0, _, hsz0, _⟩ := info_parts info5
  obtain ⟨hcut, _, _⟩ := print_take_of (P := Try.prog) (Value.int .u8) 0 27 5 .i64 Try.underlying27 hi0 hsz0 A c l (m : Int) (by omega) (by omega) hc
  obtain ⟨A2, hcut2, hA2, _⟩ := print_drop_of (P := Try.prog) (Value.int .u8) 0 27 5 .i64 Try.underlying27 hi0 hsz0 A c l (m : Int) (by omega) (by omega) hc
  rw [Int.toNat_natCast] at hcut hcut2 hA2
  have HA2 : Aside0 (∀ W : World, (Kd.int .u8).C W A l.length l → (Kd.int .u8).C W A2 (l.drop m).length (l.drop m)) := ⟨fun W hW => Kd.C_of_reads (h1 := fun _ => rfl) (hA2 W (Kd.reads_of_C hW))⟩
  clear hA2 hI hi0 hsz0
  obtain ⟨t, ht⟩ : ∃ t, l.take m = t := ⟨_, rfl⟩
  obtain ⟨q, hq⟩ : ∃ q, l.drop m = q := ⟨_, rfl⟩
  rw [ht] at hcut ⊢
  rw [hq] at hcut2 HA2 ⊢
  clear ht hq
  have hlt : decide ((l.length : Int) < (m : Int)) = false := decide_eq_false (by omega)
  go_enter Try.func37, Try.ntmps37
  go_wp2
  go_ret
  exact ⟨rfl, A2, rfl, HA2.out⟩
set_option maxHeartbeats 1000000 in
theorem raw_bad (g : Nat) (A : Option Addr) (c m : Nat) (l : List Int) (bad : Bool) (w : World) (hI : Rd 78 w g A c l bad) (hbad : bad = true ∨ l.length < m) :
    Calls Try.prog 37 #[.pointer (some ⟨g, 0, none⟩), .int .i64 (m : Int)] w fun e w' => e = .returned (.slice none 0 0) ∧ w' = w.setCell ⟨g, 1, none⟩ (.bool true) := by
  have h0 := hI.c0
  have h1 := hI.c1
  have h2 := hI.fr 1
  clear hI
  cases bad with
  | true =>
    clear hbad
    go_enter Try.func37, Try.ntmps37
    go_wp2
    go_ret
    exact ⟨rfl, rfl⟩
  | false =>
    have hlt : l.length < m := hbad.resolve_left (by simp)
    clear hbad
    go_enter Try.func37, Try.ntmps37
    go_wp2
    go_ret
    exact ⟨rfl, rfl⟩
theorem raw_any (w0 w : World) (g m : Nat) (l : List Int) (bad : Bool) (hS : RS 78 w0 w g l bad) :
    Calls Try.prog 37 #[.pointer (some ⟨g, 0, none⟩), .int .i64 (m : Int)] w fun e w' => ∃ A2 c2, e = .returned (.slice A2 (rk l bad m).1.length c2) ∧ (rk l bad m).1.length ≤ c2 ∧ (Kd.int .u8).C w' A2 (rk l bad m).1.length (rk l bad m).1 ∧
      RS 78 w0 w' g (rk l bad m).2.1 (rk l bad m).2.2 ∧ KeepBut w w' g none := by
  obtain ⟨A, c, hI, hc, hC, hg, hB⟩ := hS
  by_cases hb : bad = true ∨ l.length < m
  · have ht : rk l bad m = ([], l, true) := by unfold rk; rw [if_pos hb]
    refine (raw_bad g A c m l bad w hI hb).mono ?_
    rintro e w' ⟨rfl, rfl⟩
    rw [ht]
    exact ⟨none, 0, rfl, Nat.le_refl _, Kd.C_nil _ _, ⟨A, c, hI.set1 true, hc, hC, hg, below_set hB hg⟩, KeepBut.set_ (KeepBut.refl w g none) 1 _⟩
  · have hb2 : bad = false := by cases bad <;> simp_all
    subst hb2
    have ht : rk l false m = (l.take m, l.drop m, false) := by unfold rk; rw [if_neg hb]
    have hm : m ≤ l.length := by simp at hb; exact hb
    refine (raw_ok g A c m l w hI hc hm).mono ?_
    rintro e w' ⟨rfl, A2, rfl, hA2⟩
    rw [ht]
    have hlt : (l.take m).length = m := by rw [List.length_take]; omega
    have hld : (l.drop m).length ≤ c - m := by rw [List.length_drop]; omega
    have hltc : (l.take m).length ≤ c := by omega
    have hCw : (Kd.int .u8).C w0 A (l.take m).length (l.take m) := by
      have := Kd.reads_of_C (d := (0 : Int)) hC
      rw [hlt]
      exact Kd.C_of_reads (h1 := fun _ => rfl) (this.take_ m hm)
    have hB2 : Below w0.heap.size w0 (w.setCell ⟨g, 0, none⟩ (.slice A2 (l.drop m).length (c - m))) := below_set hB hg
    exact ⟨A, c, rfl, hltc, Kd.C_below hCw hB2, ⟨A2, c - m, hI.set0 A2 (c - m) (l.drop m), hld, hA2 w0 hC, hg, hB2⟩, KeepBut.set_ (KeepBut.refl w g none) 0 _⟩
end Go.Proofs.Ytoblfdloakkmmaa.Rf
namespace Go.Proofs.Ytoblfdloakkmmaa.Rf
set_option linter.unusedVariables false
set_option linter.unusedSimpArgs false
open Go.RowKit Go.Proofs.Ytoblfdloakkmmaa.Mp Go.Proofs.Ytoblfdloakkmmaa.PL Go.Proofs.Ytoblfdloakkmmaa.Rd Go.Proofs.YtoblfdloakkmmaaW.PrintWords Go.Proofs.YtoblfdloakkmmaaW.PrintLast Go.Proofs.YtoblfdloakkmmaaW.PrintMore
theorem i64_or_low (s a c : Nat) (h : a < 2 ^ s) (hs : a + c * 2 ^ s < 9223372036854775808) : Go.bits .or .i64 (a : Int) ((c * 2 ^ s : Nat) : Int) = ((a + c * 2 ^ s : Nat) : Int) := by
  rw [bits_or_nat .i64 63 (by decide) (fun n h0 h1 => by
    have h2 : n < 9223372036854775808 := Int.lt_of_lt_of_le h1 (Int.le_of_eq (by decide +kernel))
    rw [IntKind.wrap_i64]; omega) _ _ (by show _ < 9223372036854775808; omega) (by show _ < 9223372036854775808; omega), or_low s a c h]
theorem or4 (a b c d : Nat) (ha : a < 256) (hb : b < 256) (hc : c < 256) (hd : d < 256) :
    Go.bits .or .i64 (Go.bits .or .i64 (Go.bits .or .i64 (a : Int) ((b * 2 ^ 8 : Nat) : Int)) ((c * 2 ^ 16 : Nat) : Int)) ((d * 2 ^ 24 : Nat) : Int) = ((a + b * 256 + c * 65536 + d * 16777216 : Nat) : Int) := by
  rw [i64_or_low 8 a b (by omega) (by omega), i64_or_low 16 (a + b * 2 ^ 8) c (by omega) (by omega), i64_or_low 24 (a + b * 2 ^ 8 + c * 2 ^ 16) d (by omega) (by omega)]
/-- the next number of four bytes -/
def r4 (l : List Int) (bad : Bool) : Nat := if (rk l bad 4).2.2 = true then 0 else V (rk l bad 4).1
set_option maxHeartbeats 400000 in
theorem four_any (w0 w : World) (g : Nat) (l : List Int) (bad : Bool) (hS : RS 78 w0 w g l bad) (hb : B8 l) :
    Calls Try.prog 35 #[.pointer (some ⟨g, 0, none⟩)] w fun e w' => e = .returned (.int .i64 ((r4 l bad : Nat) : Int)) ∧ RS 78 w0 w' g (rk l bad 4).2.1 (rk l bad 4).2.2 ∧ KeepBut w w' g none := by
  have HT := Aside0.mk (raw_any w0 w g 4 l bad hS)
  unfold r4
  obtain ⟨out, rest, bad2, ht⟩ : ∃ a b c, rk l bad 4 = (a, b, c) := ⟨_, _, _, rfl⟩
  rw [ht] at HT ⊢
  clear hS
  simp only at HT ⊢
  cases bad2 with
  | true =>
    clear ht
    go_enter Try.func35, Try.ntmps35
    go_wp2_with (go_at_call 37; refine HT.out.mono ?_; rintro e w1 ⟨A2, c2, rfl, h1, h2, hS2, hK⟩; have hc1 := hS2.c1; have HS2 := Aside0.mk hS2; have HK := Aside0.mk hK; clear hS2 hK HT h2)
    go_ret
    exact ⟨rfl, HS2.out, HK.out⟩
  | false =>
    have hout : out.length = 4 ∧ B8 out := by
      unfold rk at ht
      split at ht
      · cases ht
      · rename_i hn
        simp only [Prod.mk.injEq] at ht
        rw [← ht.1]
        exact ⟨by rw [List.length_take]; omega, hb.take 4⟩
    have hol := hout.1
    go_enter Try.func35, Try.ntmps35
    go_wp2_with (go_at_call 37; refine HT.out.mono ?_; rintro e w1 ⟨A2, c2, rfl, h1, h2, hS2, hK⟩; have hc1 := hS2.c1; have HS2 := Aside0.mk hS2; have HK := Aside0.mk hK; clear hS2 hK HT)
    obtain ⟨ad, rfl, e0⟩ := Kd.at_int h2 0 (by decide) (by omega)
    obtain ⟨ad1, ha1, e1⟩ := Kd.at_int h2 1 (by decide) (by omega)
    obtain ⟨ad2, ha2, e2⟩ := Kd.at_int h2 2 (by decide) (by omega)
    obtain ⟨ad3, ha3, e3⟩ := Kd.at_int h2 3 (by decide) (by omega)
    obtain rfl := Option.some.inj ha1
    obtain rfl := Option.some.inj ha2
    obtain rfl := Option.some.inj ha3
    have c0 : w1.cell? ad = some (.int .u8 (rd out 0)) := by simpa [Addr.add] using e0
    have c1 : w1.cell? ⟨ad.block, ad.off + 1, none⟩ = some (.int .u8 (rd out 1)) := e1
    have c2' : w1.cell? ⟨ad.block, ad.off + 2, none⟩ = some (.int .u8 (rd out 2)) := e2
    have c3 : w1.cell? ⟨ad.block, ad.off + 3, none⟩ = some (.int .u8 (rd out 3)) := e3
    clear e0 e1 e2 e3 ha1 ha2 ha3 h2
    have l0 : (0 : Int) < (out.length : Int) := by omega
    have l1 : (1 : Int) < (out.length : Int) := by omega
    have l2 : (2 : Int) < (out.length : Int) := by omega
    have l3 : (3 : Int) < (out.length : Int) := by omega
    go_region
    all_goals go_wp2
    go_ret
    refine ⟨?_, rs_drew HS2.out, keep_drewN HK.out 1⟩
    have hr0 := hout.2.rd 0
    have hr1 := hout.2.rd 1
    have hr2 := hout.2.rd 2
    have hr3 := hout.2.rd 3
    have hV : V out = (rd out 0).toNat + (rd out 1).toNat * 256 + (rd out 2).toNat * 65536 + (rd out 3).toNat * 16777216 := by
      match out, hol with
      | [a, b, c, d], _ => simp [V, rd]; omega
    clear c0 c1 c2' c3 HS2 HK
    generalize rd out 0 = y0 at *
    generalize rd out 1 = y1 at *
    generalize rd out 2 = y2 at *
    generalize rd out 3 = y3 at *
    obtain ⟨a, rfl⟩ := Int.eq_ofNat_of_zero_le hr0.1
    obtain ⟨b, rfl⟩ := Int.eq_ofNat_of_zero_le hr1.1
    obtain ⟨c, rfl⟩ := Int.eq_ofNat_of_zero_le hr2.1
    obtain ⟨d, rfl⟩ := Int.eq_ofNat_of_zero_le hr3.1
    simp only [Int.toNat_natCast] at hV
    have ho := or4 a b c d (by omega) (by omega) (by omega) (by omega)
    rw [← hV] at ho
    have e0 : wrap64 (a : Int) = (a : Int) := w64n (by omega)
    have e1 : wrap64 (wrap64 (b : Int) * 256) = ((b * 2 ^ 8 : Nat) : Int) := by rw [w64n (by omega), w64 (by omega) (by omega)]; omega
    have e2 : wrap64 (wrap64 (c : Int) * 65536) = ((c * 2 ^ 16 : Nat) : Int) := by clear e0 e1; rw [w64n (by omega), w64 (by omega) (by omega)]; omega
    have e3 : wrap64 (wrap64 (d : Int) * 16777216) = ((d * 2 ^ 24 : Nat) : Int) := by clear e0 e1 e2; rw [w64n (by omega), w64 (by omega) (by omega)]; omega
    show Ending.returned (.int .i64 (Go.bits .or .i64 (Go.bits .or .i64 (Go.bits .or .i64 (wrap64 (a : Int)) (wrap64 (wrap64 (b : Int) * 256))) (wrap64 (wrap64 (c : Int) * 65536))) (wrap64 (wrap64 (d : Int) * 16777216)))) = _
    rw [e0, e1, e2, e3, ho]
end Go.Proofs.Ytoblfdloakkmmaa.Rf
namespace Go.Proofs.Ytoblfdloakkmmaa.Rf
set_option linter.unusedVariables false
set_option linter.unusedSimpArgs false
open Go.RowKit Go.Proofs.Ytoblfdloakkmmaa.Mp Go.Proofs.Ytoblfdloakkmmaa.PL Go.Proofs.Ytoblfdloakkmmaa.Rd Go.Proofs.YtoblfdloakkmmaaW.PrintWords Go.Proofs.YtoblfdloakkmmaaW.PrintLast Go.Proofs.YtoblfdloakkmmaaW.PrintMore
/-- the next number of eight bytes -/
def r8 (l : List Int) (bad : Bool) : Int := if (rk l bad 8).2.2 = true then 0 else IntKind.i64.wrap ((V (rk l bad 8).1 : Nat) : Int)
theorem up_step (out : List Int) (hb : B8 out) (ho : out.length = 8) (n : Nat) (hn : n < 8) :
    V (out.drop n) = (out.getD n 0).toNat + 256 * V (out.drop (n + 1)) ∧ V (out.drop (n + 1)) < 72057594037927936 := by
  refine ⟨?_, ?_⟩
  · rw [List.drop_eq_getElem_cons (by omega), V, List.getD_eq_getElem?_getD, List.getElem?_eq_getElem (by omega)]; rfl
  · have h1 := V_lt (hb.drop (n + 1))
    have h2 : (out.drop (n + 1)).length ≤ 7 := by rw [List.length_drop]; omega
    have h3 : 256 ^ (out.drop (n + 1)).length ≤ 256 ^ 7 := Nat.pow_le_pow_right (by decide) h2
    have : (256 : Nat) ^ 7 = 72057594037927936 := by decide
    omega
theorem or_hi (v b : Nat) (hb : b < 256) (hv : v < 72057594037927936) : Go.bits .or .u64 ((v : Int) * 256) (b : Int) = ((b + 256 * v : Nat) : Int) := by
  have e : (v : Int) * 256 = ((v * 2 ^ 8 : Nat) : Int) := by omega
  have h := u64_or_low 8 b v (by omega) (by omega)
  rw [e]
  have hq : ∀ x y : Nat, x < 18446744073709551616 → y < 18446744073709551616 → Go.bits .or .u64 (x : Int) (y : Int) = ((x ||| y : Nat) : Int) := fun x y hx hy =>
    bits_or_nat .u64 64 (by decide) (fun n h0 h1 => wu64 h0 (Int.lt_of_lt_of_le h1 (Int.le_of_eq (by decide +kernel)))) _ _ (by show _ < 18446744073709551616; omega) (by show _ < 18446744073709551616; omega)
  rw [hq b (v * 2 ^ 8) (by omega) (by omega)] at h
  rw [hq (v * 2 ^ 8) b (by omega) (by omega), Nat.or_comm, h]
  omega
set_option maxHeartbeats 1000000 in
theorem eight_any (w0 w : World) (g : Nat) (l : List Int) (bad : Bool) (hS : RS 78 w0 w g l bad) (hb : B8 l) :
    Calls Try.prog 36 #[.pointer (some ⟨g, 0, none⟩)] w fun e w' => e = .returned (.int .i64 (r8 l bad)) ∧ RS 78 w0 w' g (rk l bad 8).2.1 (rk l bad 8).2.2 ∧ KeepBut w w' g none := by
  have HT := Aside0.mk (raw_any w0 w g 8 l bad hS)
  unfold r8
  obtain ⟨out, rest, bad2, ht⟩ : ∃ a b c, rk l bad 8 = (a, b, c) := ⟨_, _, _, rfl⟩
  rw [ht] at HT ⊢
  clear hS
  simp only at HT ⊢
  cases bad2 with
  | true =>
    clear ht
    go_enter Try.func36, Try.ntmps36
    go_wp2_with (go_at_call 37; refine HT.out.mono ?_; rintro e w1 ⟨A2, c2, rfl, h1, h2, hS2, hK⟩; have hc1 := hS2.c1; have HS2 := Aside0.mk hS2; have HK := Aside0.mk hK; clear hS2 hK HT h2)
    go_ret
    exact ⟨rfl, HS2.out, HK.out⟩
  | false =>
    have hout : out.length = 8 ∧ B8 out := by
      unfold rk at ht
      split at ht
      · cases ht
      · rename_i hn
        simp only [Prod.mk.injEq] at ht
        rw [← ht.1]
        exact ⟨by rw [List.length_take]; omega, hb.take 8⟩
    have HO := Aside0.mk hout
    clear ht hout
    go_enter Try.func36, Try.ntmps36
    go_wp2_with (go_at_call 37; refine HT.out.mono ?_; rintro e w1 ⟨A2, c2, rfl, h1, h2, hS2, hK⟩; have hc1 := hS2.c1; have HS2 := Aside0.mk hS2; have HK := Aside0.mk hK; have HC := Aside0.mk h2; clear hS2 hK HT h2)
    go_loopw [4, 5] (fun u i wr => ∃ j : Int, i = .int .i64 j ∧ -1 ≤ j ∧ j ≤ 7 ∧ u = .int .u64 ((V (out.drop (j + 1).toNat) : Nat) : Int) ∧ wr = w1) (fun _ i _ => (intOf i + 1).toNat)
    case atStart => exact ⟨7, rfl, by decide, by decide, by rw [List.drop_eq_nil_of_le (by have := HO.out.1; omega)]; rfl, rfl⟩
    case round =>
      obtain ⟨j, rfl, hj1, hj2, rfl, rfl⟩ := hrel
      by_cases hj : 0 ≤ j
      · obtain ⟨n, rfl⟩ := Int.eq_ofNat_of_zero_le hj
        have d1 : decide ((0 : Int) ≤ (n : Int)) = true := decide_eq_true hj
        obtain ⟨ad, hA, hc⟩ := Kd.at_int HC.out (n : Int) (by omega) (by have := HO.out.1; omega)
        subst hA
        rw [Int.toNat_natCast] at hc
        have hq1 : (n : Int) < (out.length : Int) := by have := HO.out.1; omega
        obtain ⟨hs1, hs2⟩ := up_step out HO.out.2 HO.out.1 n (by omega)
        have hr := HO.out.2.rd (n : Int)
        have hrn : out.getD n 0 = rd out (n : Int) := by simp [rd]
        rw [hrn] at hs1
        have e1 : ((n : Int) + 1).toNat = n + 1 := by omega
        rw [e1]
        obtain ⟨v, hv⟩ : ∃ v, V (out.drop (n + 1)) = v := ⟨_, rfl⟩
        rw [hv] at hs1 hs2 ⊢
        generalize rd out (n : Int) = y at *
        obtain ⟨b, rfl⟩ := Int.eq_ofNat_of_zero_le hr.1
        have HV := Aside0.mk hs1
        clear hs1 hv hrn e1
        go_wp2_with fail
        refine ⟨⟨(n : Int) - 1, rfl, by omega, by omega, ?_, trivial⟩, by simp [intOf]⟩
        have e2 : ((n : Int) - 1 + 1).toNat = n := by omega
        rw [e2, HV.out, or_hi v b (by omega) hs2, Int.toNat_natCast]
      · obtain rfl : j = -1 := by omega
        have e1 : ((-1 : Int) + 1).toNat = 0 := rfl
        rw [e1, List.drop_zero]
        go_wp2_with fail
        go_ret
        refine ⟨?_, HS2.out, HK.out⟩
        show Ending.returned (.int .i64 (wrap64 ((V out : Nat) : Int))) = _
        rw [i64_w]
end Go.Proofs.Ytoblfdloakkmmaa.Rf
