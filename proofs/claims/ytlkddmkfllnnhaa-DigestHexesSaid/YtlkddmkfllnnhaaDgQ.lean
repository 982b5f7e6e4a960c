/- digest: the reference's digits. Own work. -/
import Derived.Test.YtlkddmkfllnnhaaDgO
import Derived.Laws.Concat
namespace Go.Proofs.Ytlkddmkfllnnhaa.Dg
set_option linter.unusedVariables false
set_option linter.unusedSimpArgs false
open Go.RowKit Go.Proofs.Ytlkddmkfllnnhaa.Md Go.Proofs.Ytlkddmkfllnnhaa.PL Go.Proofs.YtlkddmkfllnnhaaW.PrintWords Go.Proofs.YtlkddmkfllnnhaaW.PrintLast Go.Proofs.YtlkddmkfllnnhaaW.PrintMore
theorem strOfNums_app (a b : List Int) : strOfNums a ++ strOfNums b = strOfNums (a ++ b) := by
  apply ByteArray.ext
  rw [ByteArray.data_append]
  apply Array.ext'
  rw [Array.toList_append, strOfNums_data, strOfNums_data, strOfNums_data, List.map_append]
theorem strOfNums_size (a : List Int) : (strOfNums a).size = a.length := by
  rw [← data_length, strOfNums_data, List.length_map]
def digits : ByteArray := { data := #[48, 49, 50, 51, 52, 53, 54, 55, 56, 57, 97, 98, 99, 100, 101, 102] }
theorem cut_digit (n : Int) (h0 : 0 ≤ n) (h1 : n < 16) (W : World) : (Instr.slice 9 (.string digits) (some (.int .u8 n)) (some (.int .u8 (n + 1))) none).run Try.prog W = .ok (.string (strOfNums [hd n])) W := by
  rcases (show n = 0 ∨ n = 1 ∨ n = 2 ∨ n = 3 ∨ n = 4 ∨ n = 5 ∨ n = 6 ∨ n = 7 ∨ n = 8 ∨ n = 9 ∨ n = 10 ∨ n = 11 ∨ n = 12 ∨ n = 13 ∨ n = 14 ∨ n = 15 by omega) with rfl | rfl | rfl | rfl | rfl | rfl | rfl | rfl | rfl | rfl | rfl | rfl | rfl | rfl | rfl | rfl
  all_goals kernel_rfl
set_option maxHeartbeats 2000000 in
set_option maxRecDepth 100000 in
theorem refhex_any (h : List Int) (hl : h.length = 32) (hb : B8 h) (w : World) : Calls Try.prog 21 #[.agg (nums .u8 h).toArray] w fun e w' => e = .returned (.string (strOfNums (hexs h))) ∧ Below w.heap.size w w' := by
  have HL := Aside0.mk hl
  have HB := Aside0.mk hb
  clear hl hb
  have hbox : AB (w.alloc (.cells (nums .u8 h).toArray 25)) w.heap.size 25 h := heap_alloc_new w _
  have hbel : Below w.heap.size w (w.alloc (.cells (nums .u8 h).toArray 25)) := below_alloc (Below.refl _ w) _
  have HBX := Aside0.mk (And.intro hbox hbel)
  clear hbox hbel
  go_enter Try.func21, Try.ntmps21
  go_wp2
  go_loopw [3, 4] (fun s i wr => ∃ (k : Nat), s = .string (strOfNums (hexs (h.take k))) ∧ i = .int .i64 (k : Int) ∧ k ≤ 32 ∧ Aside0 (AB wr w.heap.size 25 h ∧ Below w.heap.size w wr)) (fun _ i _ => 32 - (intOf i).toNat)
  case atStart => exact ⟨0, rfl, rfl, by omega, HBX⟩
  case round =>
    clear HBX
    obtain ⟨k, rfl, rfl, hk, HBX⟩ := hrel
    obtain ⟨s, hs⟩ : ∃ s, strOfNums (hexs (h.take k)) = s := ⟨_, rfl⟩
    rw [hs]
    have HS := Aside0.mk hs
    clear hs
    by_cases hlt : k < 32
    · have c0 := HBX.out.1.cell k (by rw [HL.out]; omega)
      have hb0 := HB.out.getD k
      obtain ⟨b, hb⟩ : ∃ b, h.getD k 0 = b := ⟨_, rfl⟩
      rw [hb] at c0 hb0
      have HBD := Aside0.mk hb
      clear hb
      have s1 := cut_digit (b / 16) (by omega) (by omega)
      have s2 := cut_digit (b % 16) (by omega) (by omega)
      have e1 : IntKind.u8.wrap (b / 16 + 1) = b / 16 + 1 := by rw [IntKind.wrap_u8]; omega
      have e2 : IntKind.u8.wrap (b % 16 + 1) = b % 16 + 1 := by rw [IntKind.wrap_u8]; omega
      have e3 : IntKind.u8.wrap (b / 16) = b / 16 := by rw [IntKind.wrap_u8]; omega
      have e4 : IntKind.u8.wrap (b % 16) = b % 16 := by rw [IntKind.wrap_u8]; omega
      have g0 : 0 ≤ (k : Int) := by omega
      have g1 : (k : Int) < 32 := by omega
      have z0 : s.size ≤ 64 := by rw [← HS.out, strOfNums_size, hexs_len, List.length_take]; omega
      have z1 : (strOfNums [hd (b / 16)]).size ≤ 1 := by rw [strOfNums_size]; simp
      have z2 : (strOfNums [hd (b % 16)]).size ≤ 1 := by rw [strOfNums_size]; simp
      obtain ⟨d1, hd1⟩ : ∃ d, strOfNums [hd (b / 16)] = d := ⟨_, rfl⟩
      obtain ⟨d2, hd2⟩ : ∃ d, strOfNums [hd (b % 16)] = d := ⟨_, rfl⟩
      rw [hd1] at z1
      rw [hd2] at z2
      simp only [hd1] at s1
      simp only [hd2] at s2
      have HD := Aside0.mk (And.intro hd1 hd2)
      clear hd1 hd2
      have z3 : ¬ (s.size + d1.size > 9223372036854775807) := by omega
      have z4 : ¬ (s.size + d1.size + d2.size > 9223372036854775807) := by omega
      unfold digits at s1 s2
      go_wp2_with fail
      go_quiet (fail)
      go_wp2
      refine ⟨⟨k + 1, ?_, by go_num, by omega, ⟨HBX.out.1, pw_below_drewN HBX.out.2 _⟩⟩, by simp [intOf]; omega⟩
      rw [take_snoc h k b (by rw [HL.out]; omega) HBD.out, hexs_snoc, ← strOfNums_app, HS.out, ← HD.out.1, ← HD.out.2, ByteArray.append_assoc, strOfNums_app]
      rfl
    · have hkk : k = 32 := by omega
      subst hkk
      rw [show ((32 : Nat) : Int) = 32 from rfl]
      go_wp2
      go_ret
      refine ⟨?_, HBX.out.2⟩
      rw [← HS.out, List.take_of_length_le (by rw [HL.out]; omega)]
      rfl
end Go.Proofs.Ytlkddmkfllnnhaa.Dg
