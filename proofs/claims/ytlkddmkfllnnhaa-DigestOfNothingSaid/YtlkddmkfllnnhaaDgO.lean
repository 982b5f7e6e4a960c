/- digest: digits. Own work. -/
import Derived.Test.YtlkddmkfllnnhaaDgE
namespace Go.Proofs.Ytlkddmkfllnnhaa.Dg
set_option linter.unusedVariables false
set_option linter.unusedSimpArgs false
open Go.RowKit Go.Proofs.Ytlkddmkfllnnhaa.Md Go.Proofs.Ytlkddmkfllnnhaa.PL Go.Proofs.YtlkddmkfllnnhaaW.PrintWords Go.Proofs.YtlkddmkfllnnhaaW.PrintLast Go.Proofs.YtlkddmkfllnnhaaW.PrintMore
theorem run_index_arr (W : World) (h : List Int) (hl : h.length = 32) (k : Nat) (hk : k < 32) : (Instr.index 25 (.agg (nums .u8 h).toArray) (.int .i64 (k : Int))).run Try.prog W = .ok (.int .u8 (h.getD k 0)) W := by
  have h0 : (0 : Int) ≤ k := by omega
  have h1 : (k : Int) < 32 := by omega
  have h2 : (nums .u8 h)[k]? = some (.int .u8 (h.getD k 0)) := by simp [nums, List.getD_eq_getElem?_getD, List.getElem?_eq_getElem (show k < h.length by omega)]
  simp [Instr.index, go_sem, h0, h1, hk, h2]
theorem run_index_two (W : World) (a b : Int) (k : Nat) (hk : k < 2) : (Instr.index 60 (.agg #[.int .u8 a, .int .u8 b]) (.int .i64 (k : Int))).run Try.prog W = .ok (.int .u8 ([a, b].getD k 0)) W := by
  rcases (show k = 0 ∨ k = 1 by omega) with rfl | rfl
  · simp [Instr.index, go_sem]
  · simp [Instr.index, go_sem]
/-- a digit -/
def hd (n : Int) : Int := if n < 10 then 48 + n else 87 + n
def hex2 (b : Int) : List Int := [hd (b / 16), hd (b % 16)]
def hexs : List Int → List Int
  | [] => []
  | b :: l => hex2 b ++ hexs l
theorem hexs_snoc (l : List Int) (b : Int) : hexs (l ++ [b]) = hexs l ++ hex2 b := by
  induction l with
  | nil => simp [hexs]
  | cons x l ih => simp [hexs, ih]
theorem hexs_len (l : List Int) : (hexs l).length = 2 * l.length := by
  induction l with
  | nil => rfl
  | cons x l ih => simp only [hexs, List.length_append, ih, hex2, List.length_cons, List.length_nil]; omega
theorem and15 (b : Int) (h0 : 0 ≤ b) (h1 : b < 256) : Go.bits .and .u8 b 15 = b % 16 := by
  have := bits_mask .u8 8 (by decide) (fun n h0 h1 => wu8 h0 (by simpa using h1)) 4 (by decide) b h0 (by simpa using h1)
  simpa using this
theorem digit_any (n : Int) (w : World) (h0 : 0 ≤ n) (h1 : n < 16) : Calls Try.prog 34 #[.int .u8 n] w fun e w' => e = .returned (.int .u8 (hd n)) ∧ w' = w := by
  by_cases h : n < 10
  · have e : hd n = 48 + n := by unfold hd; rw [if_pos h]
    rw [e]
    clear e
    go_enter Try.func34, Try.ntmps34
    go_wp2
    go_ret
    exact ⟨rfl, rfl⟩
  · have e : hd n = 87 + n := by unfold hd; rw [if_neg h]
    rw [e]
    clear e
    go_enter Try.func34, Try.ntmps34
    go_wp2
    go_ret
    exact ⟨congrArg (fun z => Ending.returned (.int .u8 z)) (by omega), rfl⟩
theorem take_snoc (h : List Int) (k : Nat) (b : Int) (hk : k < h.length) (hb : h.getD k 0 = b) : h.take (k + 1) = h.take k ++ [b] := by
  rw [List.take_succ_eq_append_getElem hk, ← hb, List.getD_eq_getElem?_getD, List.getElem?_eq_getElem hk]; rfl
set_option maxHeartbeats 2000000 in
set_option maxRecDepth 100000 in
theorem hex_any (h : List Int) (hl : h.length = 32) (hb : B8 h) (w : World) : Calls Try.prog 19 #[.agg (nums .u8 h).toArray] w fun e w' => e = .returned (.string (strOfNums (hexs h))) ∧ Below w.heap.size w w' := by
  have HL := Aside0.mk hl
  have HB := Aside0.mk hb
  clear hl hb
  go_enter Try.func19, Try.ntmps19
  have hbox : (w.alloc (.cells (nums .u8 h).toArray 25)).heap[w.heap.size]? = some (.cells (nums .u8 h).toArray 25 (0, 0)) := heap_alloc_new w _
  have HBX := Aside0.mk hbox
  clear hbox
  go_wp2_with (refine wpList_load_row rfl 25 (.tmp 1) rfl w.heap.size rfl 25 _ (0, 0) _ HBX.out Try.underlying25 rfl (by rw [List.size_toArray, nums_length, HL.out]; kernel_rfl) ?_)
  go_loopw [3, 9] (fun v i wr => ∃ (k : Nat) (xs : List Int) (Av : Option Addr) (cv : Nat), v = .slice Av xs.length cv ∧ i = .int .i64 (k : Int) ∧ k ≤ 32 ∧ Aside0 (xs = hexs (h.take k)) ∧ Aside0 (xs.length = 2 * k) ∧ Aside0 ((Kd.int .u8).R 5 wr w.heap.size (fun _ => True) (.slice Av xs.length cv) xs ∧ Below w.heap.size w wr)) (fun _ i _ => 32 - (intOf i).toNat)
  case atStart => exact ⟨0, [], none, 0, rfl, rfl, by omega, ⟨rfl⟩, ⟨rfl⟩, ⟨⟨Kd.R_nil _ _ _ _ _, below_alloc (Below.refl _ w) _⟩⟩⟩
  case round =>
    obtain ⟨k, xs, Av, cv, rfl, rfl, hk, HX, HN, HE⟩ := hrel
    by_cases hlt : k < 32
    · have hix := fun W => run_index_arr W h HL.out k hlt
      have hb0 := HB.out.getD k
      obtain ⟨b, hb⟩ : ∃ b, h.getD k 0 = b := ⟨_, rfl⟩
      simp only [hb] at hix hb0
      have HBD := Aside0.mk hb
      clear hb
      have hkd : decide ((k : Int) < 32) = true := decide_eq_true (by omega)
      go_wp2
      clear hix hkd
      obtain ⟨wo, rfl⟩ : ∃ wo : World, wo = wr := ⟨_, rfl⟩
      go_loopw [3, 17] (fun v i wr => ∃ (j : Nat) (ys : List Int) (Av : Option Addr) (cv : Nat), v = .slice Av ys.length cv ∧ i = .int .i64 (j : Int) ∧ j ≤ 2 ∧ Aside0 (ys = xs ++ (hex2 b).take j) ∧ Aside0 (ys.length = 2 * k + j) ∧ Aside0 ((Kd.int .u8).R 5 wr w.heap.size (fun _ => True) (.slice Av ys.length cv) ys ∧ Below w.heap.size w wr)) (fun _ i _ => 2 - (intOf i).toNat)
      case atStart => exact ⟨0, xs, Av, cv, rfl, rfl, by omega, ⟨by simp⟩, ⟨HN.out⟩, HE⟩
      case round =>
        clear HE
        obtain ⟨j, ys, Av, cv, rfl, rfl, hj, HY, HYN, HE⟩ := hrel
        have hya : ys.length ≤ 70 := by have := HYN.out; omega
        by_cases hlt2 : j < 2
        · have hix := fun W => run_index_two W (b / 16) (b % 16) j hlt2
          have hn0 : 0 ≤ [b / 16, b % 16].getD j 0 ∧ [b / 16, b % 16].getD j 0 < 16 ∧ [hd ([b / 16, b % 16].getD j 0)] = ((hex2 b).drop j).take 1 := by
            rcases (show j = 0 ∨ j = 1 by omega) with rfl | rfl
            · exact ⟨by simp; omega, by simp; omega, rfl⟩
            · exact ⟨by simp; omega, by simp; omega, rfl⟩
          obtain ⟨n, hn⟩ : ∃ n, [b / 16, b % 16].getD j 0 = n := ⟨_, rfl⟩
          simp only [hn] at hix hn0
          clear hn
          have HN0 := Aside0.mk hn0
          clear hn0
          have hjd : decide ((j : Int) < 2) = true := decide_eq_true (by omega)
          go_wp2_with (first | (go_at_call 34; (with_reducible refine (digit_any n _ HN0.out.1 HN0.out.2.1).mono ?_); rintro e w1 ⟨rfl, rfl⟩) | ((with_reducible refine gate_builtin (b := .append) (xs := #[.tmp 20, .tmp 23]) rfl ?_); at_builtin; refine Kd.R_append (Kd.int .u8) (w0 := w) w.heap.size rfl (.tmp 20) (.tmp 23) 22 5 (.int .u8 0) 1 rfl Try.underlying22 info5 rfl (by decide) (by omega) (.slice Av ys.length cv) (ys) (hd n) [.int .u8 (hd n)] (fun _ => True) (fun _ => False) (by rfl) (by rfl) rfl (fun _ hk => hk.elim) (fun _ _ => trivial) HE.out.1 HE.out.2 HE.out.2.size (by omega) ?_; intro v2 w3 hr2 hb2 hg2 hat2; obtain ⟨zs, hzs⟩ : ∃ q, ys ++ [hd n] = q := ⟨_, rfl⟩; rw [hzs] at hr2; have HZS := Aside0.mk hzs; clear hzs; obtain ⟨A4, c4, rfl⟩ := Kd.R_slice hr2; have HE4 := Aside0.mk (And.intro hr2 hb2); clear HE; clear hat2 hr2 hb2 hg2))
          have hzl : zs.length = 2 * k + (j + 1) := by rw [← HZS.out, List.length_append, HYN.out]; simp; omega
          exact ⟨⟨j + 1, zs, A4, c4, rfl, by go_num, by omega, ⟨by rw [← HZS.out, HY.out, HN0.out.2.2, List.append_assoc, ← List.take_add]⟩, ⟨hzl⟩, HE4⟩, by simp [intOf]; omega⟩
        · have hjj : j = 2 := by omega
          subst hjj
          rw [show ((2 : Nat) : Int) = 2 from rfl]
          have h2 : ys = hexs (h.take (k + 1)) := by rw [take_snoc h k b (by rw [HL.out]; omega) HBD.out, HY.out, HX.out, hexs_snoc]; rfl
          have HY2 := Aside0.mk h2
          clear h2
          go_wp2
          exact ⟨⟨k + 1, ys, Av, cv, rfl, by go_num, by omega, HY2, ⟨by rw [HYN.out]; omega⟩, HE⟩, by simp [intOf]; omega⟩
    · have hkk : k = 32 := by omega
      subst hkk
      rw [show ((32 : Nat) : Int) = 32 from rfl]
      have hcv := own_string (P := Try.prog) Try.underlying22 Try.underlying5 Try.underlying9 (Kd.own_of_R HE.out.1)
      go_wp2
      go_ret
      refine ⟨?_, HE.out.2⟩
      rw [HX.out, List.take_of_length_le (by rw [HL.out]; omega)]
      rfl
end Go.Proofs.Ytlkddmkfllnnhaa.Dg
