/- nar's reference: check, what fails at once. Own work; printed by gen_rfh.py. -/
import Derived.Test.YthhajkmeadapgaaRfG
namespace Go.Proofs.Ythhajkmeadapgaa.Tree
set_option linter.unusedVariables false
set_option linter.unusedSimpArgs false
open Go.RowKit Go.Proofs.Ythhajkmeadapgaa.PL Go.Proofs.Ythhajkmeadapgaa.Mn Go.Proofs.YthhajkmeadapgaaW.PrintWords Go.Proofs.YthhajkmeadapgaaW.PrintLast Go.Proofs.YthhajkmeadapgaaW.PrintMore
set_option maxRecDepth 20000 in
set_option maxHeartbeats 4000000 in
theorem rcheck_form (t : S26) (A2 : Option Addr) (c2 : Nat) (A3 : Option Addr) (c3 : Nat) (A4 : Option Addr) (c4 : Nat) (w : World) (g n deep : Nat) (hblk : w.heap[g]? = some (.cells #[.int .i64 n] 3 (0, 0))) (hn : n < 65536) (hdp : deep ≤ 64) (hf : formE t ≠ 0)
   (hl2 : t.f2.length ≤ 140737488355328) (hl3 : t.f3.length ≤ 140737488355328) (hl4 : t.f4.length ≤ 140737488355328) :
    Calls Try.prog 51 #[TV t A2 c2 A3 c3 A4 c4, .int .i64 deep, .pointer (some ⟨g, 0, none⟩)] w fun e w' => e = .returned (.int .i64 (formE t)) ∧ w'.heap[g]? = some (.cells #[.int .i64 (n + 1 : Nat)] 3 (0, 0)) ∧ KeepBut w w' g none ∧ (∀ w0 : World, Below w0.heap.size w0 w → w0.heap.size ≤ g → Below w0.heap.size w0 w') := by
  have hgp : w.heap.size ≠ g := by have := blk_lt hblk; omega
  have hblk1 := blk_alloc hblk (.cells #[.int .i64 t.f0, .bool t.f1, .slice A2 t.f2.length c2, .slice A3 t.f3.length c3, .slice A4 t.f4.length c4] 26)
  have hbox1 : (w.alloc (.cells #[.int .i64 t.f0, .bool t.f1, .slice A2 t.f2.length c2, .slice A3 t.f3.length c3, .slice A4 t.f4.length c4] 26)).heap[w.heap.size]? = some (.cells #[.int .i64 t.f0, .bool t.f1, .slice A2 t.f2.length c2, .slice A3 t.f3.length c3, .slice A4 t.f4.length c4] 26 (0, 0)) := heap_alloc_new w _
  have HG1 := Aside0.mk hblk1
  have HP1 := Aside0.mk hbox1
  have HK1 : Aside0 (KeepBut w (w.alloc (.cells #[.int .i64 t.f0, .bool t.f1, .slice A2 t.f2.length c2, .slice A3 t.f3.length c3, .slice A4 t.f4.length c4] 26)) g none) := ⟨KeepBut.of_below (below_alloc (Below.refl _ w) _) g none⟩
  have HB1 : Aside0 (∀ w0 : World, Below w0.heap.size w0 w → Below w0.heap.size w0 (w.alloc (.cells #[.int .i64 t.f0, .bool t.f1, .slice A2 t.f2.length c2, .slice A3 t.f3.length c3, .slice A4 t.f4.length c4] 26))) := ⟨fun w0 h => below_alloc h _⟩
  have hd1 : ¬ (64 : Int) < (deep : Int) := by omega
  clear hblk hblk1 hbox1
  go_enter Try.func51, Try.ntmps51
  go_upto_region 1 with fail
  generalize (w.alloc (.cells #[.int .i64 t.f0, .bool t.f1, .slice A2 t.f2.length c2, .slice A3 t.f3.length c3, .slice A4 t.f4.length c4] 26)) = wa at *
  generalize w.heap.size = pp at *
  have cell0 : wa.cell? ⟨g, 0, none⟩ = some (.int .i64 n) := (blk_cell HG1.out 0).trans rfl
  have fr0 : wa.frozen? ⟨g, 0, none⟩ = false := blk_frozen HG1.out 0
  go_upto_region 2 with fail
  obtain ⟨n1, hn1⟩ : ∃ q : Nat, q = n + 1 := ⟨_, rfl⟩
  have hv : (n : Int) + 1 = (n1 : Int) := by omega
  rw [hv]
  have HN1 := Aside0.mk hn1
  have HG2 : Aside0 ((wa.setCell ⟨g, 0, none⟩ (.int .i64 (n1 : Int))).heap[g]? = some (.cells #[.int .i64 (n1 : Int)] 3 (0, 0))) := ⟨by simpa using blk_set HG1.out 0 (.int .i64 (n1 : Int))⟩
  have HG3 : Aside0 ((wa.setCell ⟨g, 0, none⟩ (.int .i64 (n1 : Int))).heap[g]? = some (.cells #[.int .i64 ((n : Int) + 1)] 3 (0, 0))) := ⟨by rw [HG2.out, hn1]; simp⟩
  have HP2 := Aside0.mk (blk_far HP1.out (p := ⟨g, 0, none⟩) hgp (.int .i64 (n1 : Int)))
  have HK2 := Aside0.mk (HK1.out.set_ 0 (.int .i64 (n1 : Int)))
  have HB2 : Aside0 (∀ w0 : World, Below w0.heap.size w0 w → w0.heap.size ≤ g → Below w0.heap.size w0 (wa.setCell ⟨g, 0, none⟩ (.int .i64 (n1 : Int)))) := ⟨fun w0 h hg => below_set (HB1.out w0 h) hg⟩
  generalize (wa.setCell ⟨g, 0, none⟩ (.int .i64 (n1 : Int))) = w2 at *
  clear cell0 fr0 HG1 HP1 HK1 hv HB1
  have hn2 : ¬ (65536 : Int) < (n1 : Int) := by omega
  clear hn1 hn
  have cell0 : w2.cell? ⟨g, 0, none⟩ = some (.int .i64 n1) := (blk_cell HG2.out 0).trans rfl
  obtain ⟨b0, b1, b2, b3, b4⟩ := cells5 HP2.out
  by_cases q1 : 0 < t.f3.length
  · have p1 : (0 : Int) < (t.f3.length : Int) := by omega
    by_cases k1 : t.f0 = 1
    · rw [k1] at b0
      have HE : Aside0 (formE t = 3) := ⟨by unfold formE; rw [if_pos k1, if_pos (.inl q1)]⟩
      clear hf
      go_wp2_with fail
      exact bodyPost_ret (v := .int .i64 3) (by simp [results, Try.results51, go_sem]) rfl ⟨by rw [HE.out], HG3.out, HK2.out, HB2.out⟩
    · by_cases k3 : t.f0 = 3
      · rw [k3] at b0
        have HE : Aside0 (formE t = 3) := ⟨by unfold formE; rw [if_neg (by omega), if_pos k3, if_pos (.inr (.inl q1))]⟩
        clear hf
        go_wp2_with fail
        exact bodyPost_ret (v := .int .i64 3) (by simp [results, Try.results51, go_sem]) rfl ⟨by rw [HE.out], HG3.out, HK2.out, HB2.out⟩
      · by_cases k2 : t.f0 = 2
        · rw [k2] at b0
          by_cases q0 : t.f1 = true
          · rw [q0] at b1
            have HE : Aside0 (formE t = 3) := ⟨by unfold formE; rw [if_neg (by omega), if_neg (by omega), if_pos k2, if_pos (.inl q0)]⟩
            clear hf
            go_wp2_with fail
            exact bodyPost_ret (v := .int .i64 3) (by simp [results, Try.results51, go_sem]) rfl ⟨by rw [HE.out], HG3.out, HK2.out, HB2.out⟩
          · have q0' : t.f1 = false := by simpa using q0
            rw [q0'] at b1
            by_cases q5 : 0 < t.f2.length
            · have p5 : (0 : Int) < (t.f2.length : Int) := by omega
              have HE : Aside0 (formE t = 3) := ⟨by unfold formE; rw [if_neg (by omega), if_neg (by omega), if_pos k2, if_pos (.inr (.inl q5))]⟩
              clear hf
              go_wp2_with fail
              exact bodyPost_ret (v := .int .i64 3) (by simp [results, Try.results51, go_sem]) rfl ⟨by rw [HE.out], HG3.out, HK2.out, HB2.out⟩
            · have p5 : ¬ (0 : Int) < (t.f2.length : Int) := by omega
              by_cases q6 : t.f3.length = t.f4.length
              · exact absurd (by unfold formE; rw [if_neg (by omega), if_neg (by omega), if_pos k2, if_neg (by rintro (h | h | h); (· exact q0 h); (· exact q5 h); exact h q6)]) hf
              · have p6 : ((t.f3.length : Int) == (t.f4.length : Int)) = false := by simpa using (show ¬ (t.f3.length : Int) = (t.f4.length : Int) by omega)
                have p7 : ((t.f3.length : Int) != (t.f4.length : Int)) = true := by simp only [bne, p6, Bool.not_false]
                have HE : Aside0 (formE t = 3) := ⟨by unfold formE; rw [if_neg (by omega), if_neg (by omega), if_pos k2, if_pos (.inr (.inr q6))]⟩
                clear hf
                go_wp2_with fail
                exact bodyPost_ret (v := .int .i64 3) (by simp [results, Try.results51, go_sem]) rfl ⟨by rw [HE.out], HG3.out, HK2.out, HB2.out⟩
        · have g1 : (t.f0 == 1) = false := by simpa using k1
          have g3 : (t.f0 == 3) = false := by simpa using k3
          have g2 : (t.f0 == 2) = false := by simpa using k2
          have HE : Aside0 (formE t = 3) := ⟨by unfold formE; rw [if_neg k1, if_neg k3, if_neg k2]⟩
          clear hf
          go_wp2_with fail
          exact bodyPost_ret (v := .int .i64 3) (by simp [results, Try.results51, go_sem]) rfl ⟨by rw [HE.out], HG3.out, HK2.out, HB2.out⟩
  · have p1 : ¬ (0 : Int) < (t.f3.length : Int) := by omega
    by_cases q2 : 0 < t.f4.length
    · have p2 : (0 : Int) < (t.f4.length : Int) := by omega
      by_cases k1 : t.f0 = 1
      · rw [k1] at b0
        have HE : Aside0 (formE t = 3) := ⟨by unfold formE; rw [if_pos k1, if_pos (.inr q2)]⟩
        clear hf
        go_wp2_with fail
        exact bodyPost_ret (v := .int .i64 3) (by simp [results, Try.results51, go_sem]) rfl ⟨by rw [HE.out], HG3.out, HK2.out, HB2.out⟩
      · by_cases k3 : t.f0 = 3
        · rw [k3] at b0
          have HE : Aside0 (formE t = 3) := ⟨by unfold formE; rw [if_neg (by omega), if_pos k3, if_pos (.inr (.inr q2))]⟩
          clear hf
          go_wp2_with fail
          exact bodyPost_ret (v := .int .i64 3) (by simp [results, Try.results51, go_sem]) rfl ⟨by rw [HE.out], HG3.out, HK2.out, HB2.out⟩
        · by_cases k2 : t.f0 = 2
          · rw [k2] at b0
            by_cases q0 : t.f1 = true
            · rw [q0] at b1
              have HE : Aside0 (formE t = 3) := ⟨by unfold formE; rw [if_neg (by omega), if_neg (by omega), if_pos k2, if_pos (.inl q0)]⟩
              clear hf
              go_wp2_with fail
              exact bodyPost_ret (v := .int .i64 3) (by simp [results, Try.results51, go_sem]) rfl ⟨by rw [HE.out], HG3.out, HK2.out, HB2.out⟩
            · have q0' : t.f1 = false := by simpa using q0
              rw [q0'] at b1
              by_cases q5 : 0 < t.f2.length
              · have p5 : (0 : Int) < (t.f2.length : Int) := by omega
                have HE : Aside0 (formE t = 3) := ⟨by unfold formE; rw [if_neg (by omega), if_neg (by omega), if_pos k2, if_pos (.inr (.inl q5))]⟩
                clear hf
                go_wp2_with fail
                exact bodyPost_ret (v := .int .i64 3) (by simp [results, Try.results51, go_sem]) rfl ⟨by rw [HE.out], HG3.out, HK2.out, HB2.out⟩
              · have p5 : ¬ (0 : Int) < (t.f2.length : Int) := by omega
                by_cases q6 : t.f3.length = t.f4.length
                · exact absurd (by unfold formE; rw [if_neg (by omega), if_neg (by omega), if_pos k2, if_neg (by rintro (h | h | h); (· exact q0 h); (· exact q5 h); exact h q6)]) hf
                · have p6 : ((t.f3.length : Int) == (t.f4.length : Int)) = false := by simpa using (show ¬ (t.f3.length : Int) = (t.f4.length : Int) by omega)
                  have p7 : ((t.f3.length : Int) != (t.f4.length : Int)) = true := by simp only [bne, p6, Bool.not_false]
                  have HE : Aside0 (formE t = 3) := ⟨by unfold formE; rw [if_neg (by omega), if_neg (by omega), if_pos k2, if_pos (.inr (.inr q6))]⟩
                  clear hf
                  go_wp2_with fail
                  exact bodyPost_ret (v := .int .i64 3) (by simp [results, Try.results51, go_sem]) rfl ⟨by rw [HE.out], HG3.out, HK2.out, HB2.out⟩
          · have g1 : (t.f0 == 1) = false := by simpa using k1
            have g3 : (t.f0 == 3) = false := by simpa using k3
            have g2 : (t.f0 == 2) = false := by simpa using k2
            have HE : Aside0 (formE t = 3) := ⟨by unfold formE; rw [if_neg k1, if_neg k3, if_neg k2]⟩
            clear hf
            go_wp2_with fail
            exact bodyPost_ret (v := .int .i64 3) (by simp [results, Try.results51, go_sem]) rfl ⟨by rw [HE.out], HG3.out, HK2.out, HB2.out⟩
    · have p2 : ¬ (0 : Int) < (t.f4.length : Int) := by omega
      by_cases k1 : t.f0 = 1
      · rw [k1] at b0
        by_cases q3 : 1048576 < t.f2.length
        · have p3 : (1048576 : Int) < (t.f2.length : Int) := by omega
          have HE : Aside0 (formE t = 5) := ⟨by unfold formE; rw [if_pos k1, if_neg (by omega), if_pos q3]⟩
          clear hf
          go_wp2_with fail
          exact bodyPost_ret (v := .int .i64 5) (by simp [results, Try.results51, go_sem]) rfl ⟨by rw [HE.out], HG3.out, HK2.out, HB2.out⟩
        · exact absurd (by unfold formE; rw [if_pos k1, if_neg (by omega), if_neg q3]) hf
      · by_cases k3 : t.f0 = 3
        · rw [k3] at b0
          by_cases q0 : t.f1 = true
          · rw [q0] at b1
            have HE : Aside0 (formE t = 3) := ⟨by unfold formE; rw [if_neg (by omega), if_pos k3, if_pos (.inl q0)]⟩
            clear hf
            go_wp2_with fail
            exact bodyPost_ret (v := .int .i64 3) (by simp [results, Try.results51, go_sem]) rfl ⟨by rw [HE.out], HG3.out, HK2.out, HB2.out⟩
          · have q0' : t.f1 = false := by simpa using q0
            rw [q0'] at b1
            have hno : ¬ (t.f1 = true ∨ 0 < t.f3.length ∨ 0 < t.f4.length) := by rintro (h | h | h); (· exact q0 h); (· exact q1 h); exact q2 h
            by_cases q3 : 1000 < t.f2.length
            · have p3 : (1000 : Int) < (t.f2.length : Int) := by omega
              have HE : Aside0 (formE t = 5) := ⟨by unfold formE; rw [if_neg (by omega), if_pos k3, if_neg hno, if_pos q3]⟩
              clear hf
              go_wp2_with fail
              exact bodyPost_ret (v := .int .i64 5) (by simp [results, Try.results51, go_sem]) rfl ⟨by rw [HE.out], HG3.out, HK2.out, HB2.out⟩
            · have p3 : ¬ (1000 : Int) < (t.f2.length : Int) := by omega
              by_cases q4 : t.f2.length = 0
              · have p4 : ((t.f2.length : Int) == 0) = true := by simp [q4]
                have HE : Aside0 (formE t = 3) := ⟨by unfold formE; rw [if_neg (by omega), if_pos k3, if_neg hno, if_neg q3, if_pos q4]⟩
                clear hf
                go_wp2_with fail
                exact bodyPost_ret (v := .int .i64 3) (by simp [results, Try.results51, go_sem]) rfl ⟨by rw [HE.out], HG3.out, HK2.out, HB2.out⟩
              · exact absurd (by unfold formE; rw [if_neg (by omega), if_pos k3, if_neg hno, if_neg q3, if_neg q4]) hf
        · by_cases k2 : t.f0 = 2
          · rw [k2] at b0
            by_cases q0 : t.f1 = true
            · rw [q0] at b1
              have HE : Aside0 (formE t = 3) := ⟨by unfold formE; rw [if_neg (by omega), if_neg (by omega), if_pos k2, if_pos (.inl q0)]⟩
              clear hf
              go_wp2_with fail
              exact bodyPost_ret (v := .int .i64 3) (by simp [results, Try.results51, go_sem]) rfl ⟨by rw [HE.out], HG3.out, HK2.out, HB2.out⟩
            · have q0' : t.f1 = false := by simpa using q0
              rw [q0'] at b1
              by_cases q5 : 0 < t.f2.length
              · have p5 : (0 : Int) < (t.f2.length : Int) := by omega
                have HE : Aside0 (formE t = 3) := ⟨by unfold formE; rw [if_neg (by omega), if_neg (by omega), if_pos k2, if_pos (.inr (.inl q5))]⟩
                clear hf
                go_wp2_with fail
                exact bodyPost_ret (v := .int .i64 3) (by simp [results, Try.results51, go_sem]) rfl ⟨by rw [HE.out], HG3.out, HK2.out, HB2.out⟩
              · have p5 : ¬ (0 : Int) < (t.f2.length : Int) := by omega
                by_cases q6 : t.f3.length = t.f4.length
                · exact absurd (by unfold formE; rw [if_neg (by omega), if_neg (by omega), if_pos k2, if_neg (by rintro (h | h | h); (· exact q0 h); (· exact q5 h); exact h q6)]) hf
                · exact absurd (by omega) q6
          · have g1 : (t.f0 == 1) = false := by simpa using k1
            have g3 : (t.f0 == 3) = false := by simpa using k3
            have g2 : (t.f0 == 2) = false := by simpa using k2
            have HE : Aside0 (formE t = 3) := ⟨by unfold formE; rw [if_neg k1, if_neg k3, if_neg k2]⟩
            clear hf
            go_wp2_with fail
            exact bodyPost_ret (v := .int .i64 3) (by simp [results, Try.results51, go_sem]) rfl ⟨by rw [HE.out], HG3.out, HK2.out, HB2.out⟩
set_option maxRecDepth 20000 in
set_option maxHeartbeats 1000000 in
theorem rcheck_long (t : S26) (A2 : Option Addr) (c2 : Nat) (A3 : Option Addr) (c3 : Nat) (A4 : Option Addr) (c4 : Nat) (w : World) (g n deep : Nat) (hblk : w.heap[g]? = some (.cells #[.int .i64 n] 3 (0, 0))) (hn : n ≤ 65536) (hdp : deep ≤ 65) (hf : 65536 < n + 1 ∨ 64 < deep)
   (hl2 : t.f2.length ≤ 140737488355328) (hl3 : t.f3.length ≤ 140737488355328) (hl4 : t.f4.length ≤ 140737488355328) :
    Calls Try.prog 51 #[TV t A2 c2 A3 c3 A4 c4, .int .i64 deep, .pointer (some ⟨g, 0, none⟩)] w fun e w' => e = .returned (.int .i64 5) ∧ w'.heap[g]? = some (.cells #[.int .i64 (n + 1 : Nat)] 3 (0, 0)) ∧ KeepBut w w' g none ∧ (∀ w0 : World, Below w0.heap.size w0 w → w0.heap.size ≤ g → Below w0.heap.size w0 w') := by
  have hgp : w.heap.size ≠ g := by have := blk_lt hblk; omega
  have hblk1 := blk_alloc hblk (.cells #[.int .i64 t.f0, .bool t.f1, .slice A2 t.f2.length c2, .slice A3 t.f3.length c3, .slice A4 t.f4.length c4] 26)
  have hbox1 : (w.alloc (.cells #[.int .i64 t.f0, .bool t.f1, .slice A2 t.f2.length c2, .slice A3 t.f3.length c3, .slice A4 t.f4.length c4] 26)).heap[w.heap.size]? = some (.cells #[.int .i64 t.f0, .bool t.f1, .slice A2 t.f2.length c2, .slice A3 t.f3.length c3, .slice A4 t.f4.length c4] 26 (0, 0)) := heap_alloc_new w _
  have HG1 := Aside0.mk hblk1
  have HP1 := Aside0.mk hbox1
  have HK1 : Aside0 (KeepBut w (w.alloc (.cells #[.int .i64 t.f0, .bool t.f1, .slice A2 t.f2.length c2, .slice A3 t.f3.length c3, .slice A4 t.f4.length c4] 26)) g none) := ⟨KeepBut.of_below (below_alloc (Below.refl _ w) _) g none⟩
  have HB1 : Aside0 (∀ w0 : World, Below w0.heap.size w0 w → Below w0.heap.size w0 (w.alloc (.cells #[.int .i64 t.f0, .bool t.f1, .slice A2 t.f2.length c2, .slice A3 t.f3.length c3, .slice A4 t.f4.length c4] 26))) := ⟨fun w0 h => below_alloc h _⟩
  clear hblk hblk1 hbox1
  go_enter Try.func51, Try.ntmps51
  go_upto_region 1 with fail
  generalize (w.alloc (.cells #[.int .i64 t.f0, .bool t.f1, .slice A2 t.f2.length c2, .slice A3 t.f3.length c3, .slice A4 t.f4.length c4] 26)) = wa at *
  generalize w.heap.size = pp at *
  have cell0 : wa.cell? ⟨g, 0, none⟩ = some (.int .i64 n) := (blk_cell HG1.out 0).trans rfl
  have fr0 : wa.frozen? ⟨g, 0, none⟩ = false := blk_frozen HG1.out 0
  go_upto_region 2 with fail
  obtain ⟨n1, hn1⟩ : ∃ q : Nat, q = n + 1 := ⟨_, rfl⟩
  have hv : (n : Int) + 1 = (n1 : Int) := by omega
  rw [hv]
  have HN1 := Aside0.mk hn1
  have HG2 : Aside0 ((wa.setCell ⟨g, 0, none⟩ (.int .i64 (n1 : Int))).heap[g]? = some (.cells #[.int .i64 (n1 : Int)] 3 (0, 0))) := ⟨by simpa using blk_set HG1.out 0 (.int .i64 (n1 : Int))⟩
  have HG3 : Aside0 ((wa.setCell ⟨g, 0, none⟩ (.int .i64 (n1 : Int))).heap[g]? = some (.cells #[.int .i64 ((n : Int) + 1)] 3 (0, 0))) := ⟨by rw [HG2.out, hn1]; simp⟩
  have HP2 := Aside0.mk (blk_far HP1.out (p := ⟨g, 0, none⟩) hgp (.int .i64 (n1 : Int)))
  have HK2 := Aside0.mk (HK1.out.set_ 0 (.int .i64 (n1 : Int)))
  have HB2 : Aside0 (∀ w0 : World, Below w0.heap.size w0 w → w0.heap.size ≤ g → Below w0.heap.size w0 (wa.setCell ⟨g, 0, none⟩ (.int .i64 (n1 : Int)))) := ⟨fun w0 h hg => below_set (HB1.out w0 h) hg⟩
  generalize (wa.setCell ⟨g, 0, none⟩ (.int .i64 (n1 : Int))) = w2 at *
  clear cell0 fr0 HG1 HP1 HK1 hv HB1
  have cell0 : w2.cell? ⟨g, 0, none⟩ = some (.int .i64 n1) := (blk_cell HG2.out 0).trans rfl
  obtain ⟨b0, b1, b2, b3, b4⟩ := cells5 HP2.out
  by_cases hq : 65536 < n1
  · have hq' : (65536 : Int) < (n1 : Int) := by omega
    clear hf hn1 hn
    go_wp2_with fail
    exact bodyPost_ret (v := .int .i64 5) (by simp [results, Try.results51, go_sem]) rfl ⟨rfl, HG3.out, HK2.out, HB2.out⟩
  · have hq' : ¬ (65536 : Int) < (n1 : Int) := by omega
    have hq2 : 64 < deep := by omega
    have hq3 : (64 : Int) < (deep : Int) := by omega
    clear hf hn1 hn
    go_wp2_with fail
    exact bodyPost_ret (v := .int .i64 5) (by simp [results, Try.results51, go_sem]) rfl ⟨rfl, HG3.out, HK2.out, HB2.out⟩
end Go.Proofs.Ythhajkmeadapgaa.Tree
