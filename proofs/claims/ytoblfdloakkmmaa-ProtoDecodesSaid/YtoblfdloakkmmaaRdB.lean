/- proto's reader: numbers and texts. Own work. -/
import Derived.Test.YtoblfdloakkmmaaRdA
import Derived.Lib.Hide
import Derived.Outline
namespace Go.Proofs.Ytoblfdloakkmmaa.Rd
set_option linter.unusedVariables false
set_option linter.unusedSimpArgs false
open Go.RowKit Go.Proofs.Ytoblfdloakkmmaa.Mp Go.Proofs.Ytoblfdloakkmmaa.PL Go.Proofs.YtoblfdloakkmmaaW.PrintWords Go.Proofs.YtoblfdloakkmmaaW.PrintLast Go.Proofs.YtoblfdloakkmmaaW.PrintMore
attribute [local go_sem] max2_int min2_int

/-- a reader in memory, whose bytes came in by w0 -/
def RS (T : Nat) (w0 w : World) (g : Nat) (l : List Int) (bad : Bool) : Prop :=
  ∃ A c, Rd T w g A c l bad ∧ l.length ≤ c ∧ (Kd.int .u8).C w0 A l.length l ∧ w0.heap.size ≤ g ∧ Below w0.heap.size w0 w
/-- the next m bytes, what is left, and whether it is bad -/
def tk (l : List Int) (bad : Bool) (m : Nat) : List Int × List Int × Bool := if bad = true ∨ l.length < m then (List.replicate (min m 8) 0, l, true) else (l.take m, l.drop m, false)
theorem made_reads (W : World) (z : Nat) (hz : z ≤ 8) (e : Nat) : (Kd.int .u8).C (W.alloc (.cells (madeCells #[.int .u8 0] z) e)) (some ⟨W.heap.size, 0, none⟩) (List.replicate z (0 : Int)).length (List.replicate z 0) := by
  have h2 : (W.alloc (.cells (madeCells #[.int .u8 0] z) e)).ownsRow 0 e 1 (.slice (some ⟨W.heap.size, 0, none⟩) z z) (List.replicate z (0 : Int)).length (encs (Value.int .u8) (List.replicate z 0)) := by
    rw [List.length_replicate]; exact own_made W 0 e .u8 z (Nat.zero_le _) (by omega)
  have h3 : (Kd.int .u8).R e (W.alloc (.cells (madeCells #[.int .u8 0] z) e)) 0 (fun _ => True) (.slice (some ⟨W.heap.size, 0, none⟩) z z) (List.replicate z (0 : Int)) := Kd.R_of_own (h1 := fun _ => rfl) h2 (fun _ _ => trivial)
  exact (Kd.R_reads' h3).2.2
theorem take_any (w0 w : World) (g m : Nat) (l : List Int) (bad : Bool) (hS : RS 73 w0 w g l bad) :
    Calls Try.prog 42 #[.pointer (some ⟨g, 0, none⟩), .int .i64 (m : Int)] w fun e w' => ∃ A2 c2, e = .returned (.slice A2 (tk l bad m).1.length c2) ∧ (tk l bad m).1.length ≤ c2 ∧ (Kd.int .u8).C w' A2 (tk l bad m).1.length (tk l bad m).1 ∧
      RS 73 w0 w' g (tk l bad m).2.1 (tk l bad m).2.2 ∧ KeepBut w w' g none := by
  obtain ⟨A, c, hI, hc, hC, hg, hB⟩ := hS
  by_cases hb : bad = true ∨ l.length < m
  · have ht : tk l bad m = (List.replicate (min m 8) 0, l, true) := by unfold tk; rw [if_pos hb]
    refine (take_bad g A c m l bad w hI hb).mono ?_
    rintro e w' ⟨rfl, rfl⟩
    rw [ht]
    refine ⟨_, min m 8, by rw [List.length_replicate], Nat.le_of_eq List.length_replicate, ?_, ⟨A, c, ?_, hc, hC, hg, ?_⟩, ?_⟩
    · have := made_reads (w.setCell ⟨g, 1, none⟩ (.bool true)) (min m 8) (by omega) 5
      simpa using this
    · exact blk_alloc (hI.set1 true) _
    · exact below_alloc (below_set hB hg) _
    · exact keep_alloc (KeepBut.set_ (KeepBut.refl w g none) 1 _) _
  · have hb2 : bad = false := by cases bad <;> simp_all
    subst hb2
    have ht : tk l false m = (l.take m, l.drop m, false) := by unfold tk; rw [if_neg hb]
    have hm : m ≤ l.length := by simp at hb; exact hb
    refine (take_ok g A c m l w hI hc hm).mono ?_
    rintro e w' ⟨rfl, A2, rfl, hA2⟩
    rw [ht]
    have hlt : (l.take m).length = m := by rw [List.length_take]; omega
    have hld : (l.drop m).length ≤ c - m := by rw [List.length_drop]; omega
    have hltc : (l.take m).length ≤ c := by omega
    have hCw : (Kd.int .u8).C w0 A (l.take m).length (l.take m) := by
      have := Kd.reads_of_C (d := (0 : Int)) hC
      rw [hlt]
      exact Kd.C_of_reads (h1 := fun _ => rfl) (this.take_ m hm)
    have hB2 : Below w0.heap.size w0 (w.setCell ⟨g, 0, none⟩ (.slice A2 (l.drop m).length (c - m))) := below_set hB hg
    exact ⟨A, c, rfl, hltc, Kd.C_below hCw hB2, ⟨A2, c - m, hI.set0 A2 (c - m) (l.drop m), hld, hA2 w0 hC, hg, hB2⟩, KeepBut.set_ (KeepBut.refl w g none) 0 _⟩

theorem u64_or_low (s a c : Nat) (h : a < 2 ^ s) (hs : a + c * 2 ^ s < 18446744073709551616) : Go.bits .or .u64 (a : Int) ((c * 2 ^ s : Nat) : Int) = ((a + c * 2 ^ s : Nat) : Int) := by
  rw [bits_or_nat .u64 64 (by decide) (fun n h0 h1 => wu64 h0 (Int.lt_of_lt_of_le h1 (Int.le_of_eq (by decide +kernel)))) _ _ (by show _ < 18446744073709551616; omega) (by show _ < 18446744073709551616; omega), or_low s a c h]
theorem num_step (out : List Int) (hb : B8 out) (ho : out.length ≤ 8) (k : Nat) (hk : k < out.length) :
    Go.bits .or .u64 ((V (out.take k) : Nat) : Int) (IntKind.u64.wrap (IntKind.u64.wrap (rd out (k : Int)) * 2 ^ (8 * k))) = ((V (out.take (k + 1)) : Nat) : Int) := by
  have hg := hb.getD k
  rw [wu64 (n := rd out (k : Int)) (hb.rd _).1 (by have := (hb.rd (k : Int)).2; omega)]
  have h1 := V_lt (hb.take k)
  rw [List.length_take, Nat.min_eq_left (by omega), show (256 : Nat) = 2 ^ 8 from rfl, ← Nat.pow_mul] at h1
  have h2 := V_lt (hb.take (k + 1))
  rw [List.length_take, Nat.min_eq_left (by omega)] at h2
  have h3 : 256 ^ (k + 1) ≤ 256 ^ 8 := Nat.pow_le_pow_right (by decide) (by omega)
  have e := V_take_succ out k hk
  rw [show (256 : Nat) ^ k = 2 ^ (8 * k) from by rw [show (256 : Nat) = 2 ^ 8 from rfl, ← Nat.pow_mul], Nat.mul_comm] at e
  have hc : rd out (k : Int) * 2 ^ (8 * k) = (((out.getD k 0).toNat * 2 ^ (8 * k) : Nat) : Int) := by
    rw [rd_nat, Int.natCast_mul, Int.toNat_of_nonneg hg.1, Int.natCast_pow]; rfl
  have h4 : (256 : Nat) ^ 8 = 18446744073709551616 := by decide
  have h5 : V (out.take k) + (out.getD k 0).toNat * 2 ^ (8 * k) < 18446744073709551616 := by rw [← e, ← h4]; exact Nat.lt_of_lt_of_le h2 h3
  rw [hc, wu64 (Int.natCast_nonneg _) (by have := Nat.lt_of_le_of_lt (Nat.le_add_left _ (V (out.take k))) h5; omega), u64_or_low _ _ _ h1 h5, e]
set_option maxHeartbeats 1000000 in
theorem number_any (w0 w : World) (g m : Nat) (l : List Int) (bad : Bool) (hS : RS 73 w0 w g l bad) (hm : m ≤ 8) (hb : B8 l) :
    Calls Try.prog 32 #[.pointer (some ⟨g, 0, none⟩), .int .i64 (m : Int)] w fun e w' => e = .returned (.int .u64 ((V (tk l bad m).1 : Nat) : Int)) ∧
      RS 73 w0 w' g (tk l bad m).2.1 (tk l bad m).2.2 ∧ KeepBut w w' g none := by
  have ho8 : (tk l bad m).1.length ≤ 8 := by unfold tk; split <;> simp <;> omega
  have hob : B8 (tk l bad m).1 := by
    unfold tk; split
    · exact B8.rep _
    · exact hb.take _
  have HT := Aside0.mk (take_any w0 w g m l bad hS)
  obtain ⟨out, rest, bad2, ht⟩ : ∃ a b c, tk l bad m = (a, b, c) := ⟨_, _, _, rfl⟩
  rw [ht] at ho8 hob HT ⊢
  clear ht hS
  simp only at ho8 hob HT ⊢
  have HB8 := Aside0.mk hob
  clear hob
  go_enter Try.func32, Try.ntmps32
  go_wp2_with (go_at_call 42; refine HT.out.mono ?_; rintro e w1 ⟨A2, c2, rfl, hc2, hC2, hS2, hK⟩; have HC := Aside0.mk hC2; have HS2 := Aside0.mk hS2; have HK := Aside0.mk hK; clear hC2 hS2 hK HT)
  go_loop [5, 12] (fun v i => ∃ k : Nat, k ≤ out.length ∧ v = .int .u64 ((V (out.take k) : Nat) : Int) ∧ i = .int .i64 (k : Int)) (fun _ i => out.length - (intOf i).toNat)
  case atStart => exact ⟨0, Nat.zero_le _, rfl, rfl⟩
  case round =>
    obtain ⟨k, hk, rfl, rfl⟩ := hrel
    by_cases hlt : k < out.length
    · obtain ⟨ad, rfl, hcell⟩ := Kd.at_int HC.out (k : Int) (Int.natCast_nonneg _) (by omega)
      rw [Int.toNat_natCast] at hcell
      have hst := Lib.hid (num_step out HB8.out ho8 k hlt)
      go_wp2
      refine ⟨⟨k + 1, by omega, ?_, by go_num⟩, by simp [intOf]; omega⟩
      rw [hst.out]
    · go_wp2
      go_ret
      have hkk : k = out.length := by omega
      subst hkk
      rw [List.take_length]
      exact ⟨rfl, HS2.out, HK.out⟩
end Go.Proofs.Ytoblfdloakkmmaa.Rd
