/- chapter 1's law: the digest under a key. Own work. -/
import Derived.Test.YtlkddmkfllnnhaaLwA
import Derived.Deep.RegionLaw
namespace Go.Proofs.Ytlkddmkfllnnhaa.Dg
set_option linter.unusedVariables false
set_option linter.unusedSimpArgs false
open Go.RowKit Go.Proofs.Ytlkddmkfllnnhaa.Md Go.Proofs.Ytlkddmkfllnnhaa.PL Go.Proofs.YtlkddmkfllnnhaaW.PrintWords Go.Proofs.YtlkddmkfllnnhaaW.PrintLast Go.Proofs.YtlkddmkfllnnhaaW.PrintMore
set_option maxHeartbeats 2000000 in
theorem macs_any (Ak : Option Addr) (ck : Nat) (key : List Int) (A : Option Addr) (c : Nat) (l : List Int) (w : World) (hCk : (Kd.int .u8).C w Ak key.length key) (hck : key.length ≤ ck) (hC : (Kd.int .u8).C w A l.length l) (hc : l.length ≤ c)
    (hkl : key.length ≤ 140737488351232) (hl : l.length ≤ 140737488351232) (hkb : B8 key) (hb : B8 l) :
    Calls Try.prog 4 #[.slice Ak key.length ck, .slice A l.length c] w fun e w' => e = .returned (.bool true) ∧ Below w.heap.size w w' := by
  have HC := Aside0.mk hC
  have HCK := Aside0.mk hCk
  have HB8 := Aside0.mk (And.intro hkb hb)
  clear hC hCk hb hkb
  by_cases h3 : 3000 < key.length + l.length
  · go_enter Try.func4, Try.ntmps4
    go_wp2
    go_ret
    exact ⟨rfl, Below.refl _ _⟩
  · have hl3 : l.length ≤ 3000 := by omega
    have hk3 : key.length ≤ 3000 := by omega
    have HRk := Aside0.mk (roomy_any Ak ck key w HCK.out hck hk3)
    have HR := Aside0.mk (fun W h => roomy_any A c l W h hc hl3)
    obtain ⟨rk, hrk⟩ : ∃ r, key ++ [171] = r := ⟨_, rfl⟩
    obtain ⟨r, hr⟩ : ∃ r, l ++ [171] = r := ⟨_, rfl⟩
    have hrkl : rk.length = key.length + 1 := by rw [← hrk]; simp
    have hrkt : rk.take key.length = key := by rw [← hrk, List.take_append_of_le_length (Nat.le_refl _), List.take_length]
    have hrl : r.length = l.length + 1 := by rw [← hr]; simp
    have hrt : r.take l.length = l := by rw [← hr, List.take_append_of_le_length (Nat.le_refl _), List.take_length]
    have HST := Aside0.mk (fun (A0 A1 : Option Addr) (c0 c1 : Nat) W => stands_any A0 A1 c0 c1 l W)
    have HSTk := Aside0.mk (fun (A0 A1 : Option Addr) (c0 c1 : Nat) W => stands_any A0 A1 c0 c1 key W)
    rw [hr] at HR HST
    rw [hrk] at HRk HSTk
    obtain ⟨S, hS⟩ : ∃ S, mac key l = S := ⟨_, rfl⟩
    have heq := fun W => eql_arr 25 32 Try.underlying25 S (by rw [← hS, mac_len]) W
    have HS := Aside0.mk (fun (A Ak : Option Addr) (c ck : Nat) W => mac_any A Ak c ck l key W)
    have HS2 := Aside0.mk (fun W => refmac_any A Ak c ck l key W)
    rw [hS] at HS HS2
    have HRT := Aside0.mk (And.intro hrl hrt)
    have HRTk := Aside0.mk (And.intro hrkl hrkt)
    clear hr hrl hrt hS hrk hrkl hrkt
    go_enter Try.func4, Try.ntmps4
    go_upto_region 5 with (first | (go_at_call 9; (with_reducible refine HRk.out.mono ?_); rintro e w1 ⟨A1, c1, rfl, hc1, hC1, hb1⟩; have HC1 := Aside0.mk hC1; have HB1 := Aside0.mk hb1; clear hC1 hb1 HRk) | (go_at_call 9; (with_reducible refine (HR.out _ (Kd.C_below HC.out HB1.out)).mono ?_); rintro e w2 ⟨A2, c2, rfl, hc2, hC2, hb2⟩; have HC2 := Aside0.mk hC2; have HB2 := Aside0.mk hb2; clear hC2 hb2 HR))
    obtain ⟨i0, hi0, _, hsz0, _⟩ := info_parts info5
    obtain ⟨hcut1, hA1, _⟩ := print_take_of (P := Try.prog) (Value.int .u8) 0 22 5 .i64 Try.underlying22 hi0 hsz0 A1 c1 rk (key.length : Int) (by omega) (by have := HRTk.out.1; omega) hc1
    obtain ⟨hcut2, hA2, _⟩ := print_take_of (P := Try.prog) (Value.int .u8) 0 22 5 .i64 Try.underlying22 hi0 hsz0 A2 c2 r (l.length : Int) (by omega) (by have := HRT.out.1; omega) hc2
    rw [Int.toNat_natCast, HRTk.out.2] at hcut1 hA1
    rw [Int.toNat_natCast, HRT.out.2] at hcut2 hA2
    have HCL1 := Aside0.mk (show (Kd.int .u8).C w2 A1 key.length key from Kd.C_of_reads (h1 := fun _ => rfl) (hA1 w2 (Kd.reads_of_C (Kd.C_below HC1.out HB2.out))))
    have HCL2 := Aside0.mk (show (Kd.int .u8).C w2 A2 l.length l from Kd.C_of_reads (h1 := fun _ => rfl) (hA2 w2 (Kd.reads_of_C HC2.out)))
    have hc1l : key.length ≤ c1 := by have := HRTk.out.1; omega
    have hc2l : l.length ≤ c2 := by have := HRT.out.1; omega
    have HW2 := Aside0.mk (below_then HB1.out HB1.out.size HB2.out)
    clear hi0 hsz0 hA1 hA2
    have hB2 : Below w.heap.size w w2.drew := below_drew HW2.out
    have hD1 : (Kd.int .u8).C w2.drew A1 key.length key := Kd.C_below HCL1.out (below_drew (Below.refl _ _))
    have hD2 : (Kd.int .u8).C w2.drew A2 l.length l := Kd.C_below HCL2.out (below_drew (Below.refl _ _))
    have hE1 : (Kd.int .u8).C w2.drew A1 rk.length rk := Kd.C_below (Kd.C_below HC1.out HB2.out) (below_drew (Below.refl _ _))
    have hE2 : (Kd.int .u8).C w2.drew A2 r.length r := Kd.C_below HC2.out (below_drew (Below.refl _ _))
    have HD := Aside0.mk (And.intro hB2 (And.intro hD1 (And.intro hD2 (And.intro hE1 hE2))))
    clear hB2 hD1 hD2 hE1 hE2
    have g1 : (key.length : Int) ≤ (c1 : Int) := by omega
    have g2 : (l.length : Int) ≤ (c2 : Int) := by omega
    go_region_law (first | (go_simp; go_at_call 14; (with_reducible refine (HS.out A2 A1 c2 c1 w2.drew HD.out.2.1 hc1l HD.out.2.2.1 (by omega) (by omega) HB8.out.1 HB8.out.2).mono ?_); rintro e w3 ⟨rfl, hb3⟩; have HB3 := Aside0.mk (below_then HD.out.1 HD.out.1.size hb3); have HE3 := Aside0.mk (And.intro (Kd.C_below HD.out.2.2.2.1 hb3) (Kd.C_below HD.out.2.2.2.2 hb3)); clear hb3) | (go_simp; go_at_call 15; (with_reducible refine (HS2.out _ (Kd.C_below HCK.out HB3.out) hck (Kd.C_below HC.out HB3.out) (by omega) (by omega) HB8.out.1 HB8.out.2).mono ?_); rintro e w4 ⟨rfl, hb4⟩; have HB4 := Aside0.mk (below_then HB3.out HB3.out.size hb4); have HE4 := Aside0.mk (And.intro (Kd.C_below HE3.out.1 hb4) (Kd.C_below HE3.out.2 hb4)); clear hb4) | (go_simp; go_at_call 12; (with_reducible refine (HSTk.out _ _ _ _ _ HE4.out.1 hc1 (Kd.C_below HCK.out HB4.out) hck hk3).mono ?_); rintro e w5 ⟨rfl, hd5⟩; have HB5 := Aside0.mk (below_then HB4.out HB4.out.size hd5.below); have HE5 := Aside0.mk (Kd.C_below HE4.out.2 hd5.below); clear hd5) | (go_simp; go_at_call 12; (with_reducible refine (HST.out _ _ _ _ _ HE5.out hc2 (Kd.C_below HC.out HB5.out) hc hl3).mono ?_); rintro e w6 ⟨rfl, hd6⟩; have HB6 := Aside0.mk (below_then HB5.out HB5.out.size hd6.below); clear hd6) | (go_simp; go_at_call 13; (with_reducible refine (known_any _).mono ?_); rintro e w7 ⟨rfl, hb7⟩; have HB7 := Aside0.mk (below_then HB6.out HB6.out.size hb7); clear hb7))
    all_goals
      go_wp2
      go_ret
      exact ⟨rfl, HB7.out⟩
end Go.Proofs.Ytlkddmkfllnnhaa.Dg
