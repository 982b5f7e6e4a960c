/- chapter 1's law: the digest of any bytes. Own work. -/
import Derived.Test.YtlkddmkfllnnhaaDgKn
import Derived.Test.YtlkddmkfllnnhaaDgEq
import Derived.Test.YtlkddmkfllnnhaaSame
namespace Go.Proofs.Ytlkddmkfllnnhaa.Dg
set_option linter.unusedVariables false
set_option linter.unusedSimpArgs false
open Go.RowKit Go.Proofs.Ytlkddmkfllnnhaa.Md Go.Proofs.Ytlkddmkfllnnhaa.PL Go.Proofs.YtlkddmkfllnnhaaW.PrintWords Go.Proofs.YtlkddmkfllnnhaaW.PrintLast Go.Proofs.YtlkddmkfllnnhaaW.PrintMore
theorem stands_any (A0 A1 : Option Addr) (c0 c1 : Nat) (l : List Int) (w : World) (h0 : (Kd.int .u8).C w A0 (l ++ [171]).length (l ++ [171])) (hc0 : (l ++ [171]).length ≤ c0) (h1 : (Kd.int .u8).C w A1 l.length l) (hc1 : l.length ≤ c1) (hl : l.length ≤ 3000) :
    Calls Try.prog 12 #[.slice A0 (l ++ [171]).length c0, .slice A1 l.length c1] w fun e w' => e = .returned (.bool true) ∧ Drawn0 w w' := by
  obtain ⟨K, hK⟩ := Pure.stands_ev l (by omega)
  exact pantrylaw1_stands.calls K A0 c0 (l ++ [171]) A1 c1 l true w h0 hc0 h1 hc1 (hK K (Nat.le_refl _))
theorem roomy_any (A0 : Option Addr) (c0 : Nat) (l : List Int) (w : World) (h0 : (Kd.int .u8).C w A0 l.length l) (hc0 : l.length ≤ c0) (hl : l.length ≤ 3000) :
    Calls Try.prog 9 #[.slice A0 l.length c0] w fun e w' => ∃ A1 c1, e = .returned (.slice A1 (l ++ [171]).length c1) ∧ (l ++ [171]).length ≤ c1 ∧ (Kd.int .u8).C w' A1 (l ++ [171]).length (l ++ [171]) ∧ Below w.heap.size w w' := by
  refine (pantrylaw1_roomy.calls A0 c0 l (l ++ [171]) w h0 hc0 (Pure.roomy_f l (by omega))).mono ?_
  rintro e w' ⟨v, rfl, hr, hb⟩
  obtain ⟨A1, c1, rfl⟩ := Kd.R_slice hr
  exact ⟨A1, c1, rfl, (Kd.R_reads' hr).2.1, (Kd.R_reads' hr).2.2, hb⟩
set_option maxHeartbeats 2000000 in
theorem sums_any (A : Option Addr) (c : Nat) (l : List Int) (w : World) (hC : (Kd.int .u8).C w A l.length l) (hc : l.length ≤ c) (hl : l.length ≤ 140737488351232) (hb : B8 l) :
    Calls Try.prog 3 #[.slice A l.length c] w fun e w' => e = .returned (.bool true) ∧ Below w.heap.size w w' := by
  have HC := Aside0.mk hC
  have HB8 := Aside0.mk hb
  clear hC hb
  by_cases h3 : 3000 < l.length
  · go_enter Try.func3, Try.ntmps3
    go_wp2
    go_ret
    exact ⟨rfl, Below.refl _ _⟩
  · have hl3 : l.length ≤ 3000 := by omega
    have HR := Aside0.mk (roomy_any A c l w HC.out hc hl3)
    obtain ⟨r, hr⟩ : ∃ r, l ++ [171] = r := ⟨_, rfl⟩
    have hrl : r.length = l.length + 1 := by rw [← hr]; simp
    have hrt : r.take l.length = l := by rw [← hr, List.take_append_of_le_length (Nat.le_refl _), List.take_length]
    have HST := Aside0.mk (fun (A0 A1 : Option Addr) (c0 c1 : Nat) W => stands_any A0 A1 c0 c1 l W)
    rw [hr] at HR HST
    obtain ⟨S, hS⟩ : ∃ S, sha l = S := ⟨_, rfl⟩
    have heq := fun W => eql_arr 25 32 Try.underlying25 S (by rw [← hS, sha_len]) W
    have HS := Aside0.mk (fun (A : Option Addr) (c : Nat) W => sum_any A c l W)
    have HS2 := Aside0.mk (refsum_any A c l)
    rw [hS] at HS HS2
    have HRT := Aside0.mk (And.intro hrl hrt)
    clear hr hrl hrt hS
    go_enter Try.func3, Try.ntmps3
    go_upto_region 4 with (go_at_call 9; refine HR.out.mono ?_; rintro e w1 ⟨A1, c1, rfl, hc1, hC1, hb1⟩; have HC1 := Aside0.mk hC1; have HB1 := Aside0.mk hb1; clear hC1 hb1 HR)
    obtain ⟨i0, hi0, _, hsz0, _⟩ := info_parts info5
    obtain ⟨hcut, hA1, _⟩ := print_take_of (P := Try.prog) (Value.int .u8) 0 22 5 .i64 Try.underlying22 hi0 hsz0 A1 c1 r (l.length : Int) (by omega) (by have := HRT.out.1; omega) hc1
    rw [Int.toNat_natCast, HRT.out.2] at hcut hA1
    have HCL := Aside0.mk (show (Kd.int .u8).C w1 A1 l.length l from Kd.C_of_reads (h1 := fun _ => rfl) (hA1 w1 (Kd.reads_of_C HC1.out)))
    have hc1l : l.length ≤ c1 := by have := HRT.out.1; omega
    clear hi0 hsz0 hA1
    go_wp2_with (first | (go_at_call 10; (with_reducible refine (HS.out _ _ _ HCL.out hc1l (by omega) HB8.out).mono ?_); rintro e w2 ⟨rfl, hb2⟩; have HB2 := Aside0.mk hb2; clear hb2) | (go_at_call 11; (with_reducible refine (HS2.out _ (Kd.C_below (Kd.C_below HC.out HB1.out) HB2.out) hc (by omega) HB8.out).mono ?_); rintro e w3 ⟨rfl, hb3⟩; have HB3 := Aside0.mk hb3; clear hb3) | (go_at_call 12; (with_reducible refine (HST.out _ _ _ _ _ (Kd.C_below (Kd.C_below HC1.out HB2.out) HB3.out) hc1 (Kd.C_below (Kd.C_below (Kd.C_below HC.out HB1.out) HB2.out) HB3.out) hc hl3).mono ?_); rintro e w4 ⟨rfl, hd4⟩; have HB4 := Aside0.mk hd4.below; clear hd4) | (go_at_call 13; (with_reducible refine (known_any _).mono ?_); rintro e w5 ⟨rfl, hb5⟩; have HB5 := Aside0.mk hb5; clear hb5))
    go_ret
    have h12 := below_then HB1.out HB1.out.size HB2.out
    have h13 := below_then h12 h12.size HB3.out
    have h14 := below_then h13 h13.size HB4.out
    exact ⟨rfl, below_then h14 h14.size HB5.out⟩
end Go.Proofs.Ytlkddmkfllnnhaa.Dg
