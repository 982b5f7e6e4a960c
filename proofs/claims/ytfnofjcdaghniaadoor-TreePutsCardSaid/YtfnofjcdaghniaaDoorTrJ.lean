/- tree: isEntry, check. Own work. -/
import Derived.Test.YtfnofjcdaghniaaDoorTrA
import Derived.Test.YtfnofjcdaghniaaDoorShelf
import Derived.Laws.Cover1
namespace Go.Proofs.YtfnofjcdaghniaaDoor.Tree
set_option linter.unusedVariables false
set_option linter.unusedSimpArgs false
open Go.RowKit Go.Proofs.YtfnofjcdaghniaaDoor.PL Go.Proofs.YtfnofjcdaghniaaDoor.Mt Go.Proofs.YtfnofjcdaghniaaDoorW.PrintWords Go.Proofs.YtfnofjcdaghniaaDoorW.PrintLast Go.Proofs.YtfnofjcdaghniaaDoorW.PrintMore
def isE (s : ByteArray) : Bool := decide (1 ≤ (s.size : Int)) && decide ((s.size : Int) ≤ 100) && !(s.toList == [46]) && !(s.toList == [46, 46]) && decide (Lib.indexByte s.data.toList 47 < 0) && decide (Lib.indexByte s.data.toList 0 < 0)
set_option maxRecDepth 20000 in
set_option maxHeartbeats 400000 in
theorem isEntry_any (s : ByteArray) (w : World) : Calls Tryd.prog 45 #[.string s] w fun e w' => e = .returned (.bool (isE s)) ∧ w' = w := by
  have H1 := Aside0.mk (Tryd.strings_IndexByte s 47 w)
  have H2 := Aside0.mk (Tryd.strings_IndexByte s 0 w)
  unfold isE
  obtain ⟨i1, hi1⟩ : ∃ x, Lib.indexByte s.data.toList 47 = x := ⟨_, rfl⟩
  obtain ⟨i2, hi2⟩ : ∃ x, Lib.indexByte s.data.toList 0 = x := ⟨_, rfl⟩
  have H1' : Aside0 (Calls Tryd.prog 62 #[.string s, .int .u8 47] w fun e w' => e = .returned (.int .i64 i1) ∧ w' = w) := ⟨hi1 ▸ H1.out⟩
  have H2' : Aside0 (Calls Tryd.prog 62 #[.string s, .int .u8 0] w fun e w' => e = .returned (.int .i64 i2) ∧ w' = w) := ⟨hi2 ▸ H2.out⟩
  rw [hi1, hi2]
  clear H1 H2 hi1 hi2
  by_cases h1 : 1 ≤ (s.size : Int)
  · by_cases h2 : (s.size : Int) ≤ 100
    · by_cases h3 : s.toList = [46]
      · have h3b : (s.toList == [46]) = true := by simpa using h3
        have e : (decide (1 ≤ (s.size : Int)) && decide ((s.size : Int) ≤ 100) && !(s.toList == [46]) && !(s.toList == [46, 46]) && decide (i1 < 0) && decide (i2 < 0)) = false := by rw [h3b]; simp
        rw [e]
        clear e H1' H2'
        go_enter Tryd.func45, Tryd.ntmps45
        go_wp2_with fail
        go_ret
        exact ⟨rfl, rfl⟩
      · have h3b : (s.toList == [46]) = false := by simpa using h3
        by_cases h4 : s.toList = [46, 46]
        · have h4b : (s.toList == [46, 46]) = true := by simpa using h4
          have e : (decide (1 ≤ (s.size : Int)) && decide ((s.size : Int) ≤ 100) && !(s.toList == [46]) && !(s.toList == [46, 46]) && decide (i1 < 0) && decide (i2 < 0)) = false := by rw [h4b]; simp
          rw [e]
          clear e H1' H2'
          go_enter Tryd.func45, Tryd.ntmps45
          go_wp2_with fail
          go_ret
          exact ⟨rfl, rfl⟩
        · have h4b : (s.toList == [46, 46]) = false := by simpa using h4
          rw [decide_eq_true h1, decide_eq_true h2, h3b, h4b]
          by_cases h5 : i1 < 0
          · rw [decide_eq_true h5]
            go_enter Tryd.func45, Tryd.ntmps45
            go_wp2_with (go_at_call 62; first | (with_reducible refine H1'.out.mono ?_; rintro e_ w1 ⟨rfl, rfl⟩) | (with_reducible refine H2'.out.mono ?_; rintro e_ w1 ⟨rfl, rfl⟩))
            go_ret
            exact ⟨by simp, rfl⟩
          · rw [decide_eq_false h5]
            go_enter Tryd.func45, Tryd.ntmps45
            go_wp2_with (go_at_call 62; first | (with_reducible refine H1'.out.mono ?_; rintro e_ w1 ⟨rfl, rfl⟩) | (with_reducible refine H2'.out.mono ?_; rintro e_ w1 ⟨rfl, rfl⟩))
            go_ret
            exact ⟨by simp, rfl⟩
    · have e : (decide (1 ≤ (s.size : Int)) && decide ((s.size : Int) ≤ 100) && !(s.toList == [46]) && !(s.toList == [46, 46]) && decide (i1 < 0) && decide (i2 < 0)) = false := by rw [decide_eq_false h2]; simp
      rw [e]
      go_enter Tryd.func45, Tryd.ntmps45
      go_wp2_with fail
      go_ret
      exact ⟨rfl, rfl⟩
  · have e : (decide (1 ≤ (s.size : Int)) && decide ((s.size : Int) ≤ 100) && !(s.toList == [46]) && !(s.toList == [46, 46]) && decide (i1 < 0) && decide (i2 < 0)) = false := by rw [decide_eq_false h1]; simp
    rw [e]
    go_enter Tryd.func45, Tryd.ntmps45
    go_wp2_with fail
    go_ret
    exact ⟨rfl, rfl⟩
end Go.Proofs.YtfnofjcdaghniaaDoor.Tree
namespace Go.Proofs.YtfnofjcdaghniaaDoor.Tree
set_option linter.unusedVariables false
set_option linter.unusedSimpArgs false
open Go.RowKit Go.Proofs.YtfnofjcdaghniaaDoor.PL Go.Proofs.YtfnofjcdaghniaaDoor.Mt Go.Proofs.YtfnofjcdaghniaaDoorW.PrintWords Go.Proofs.YtfnofjcdaghniaaDoorW.PrintLast Go.Proofs.YtfnofjcdaghniaaDoorW.PrintMore
/-- what is wrong with a node's own fields -/
def formE (t : S26) : Int :=
  if t.f0 = 1 then (if 0 < t.f3.length ∨ 0 < t.f4.length then 3 else if 1048576 < t.f2.length then 5 else 0)
  else if t.f0 = 3 then (if t.f1 = true ∨ 0 < t.f3.length ∨ 0 < t.f4.length then 3 else if 1000 < t.f2.length then 5 else if t.f2.length = 0 then 3 else 0)
  else if t.f0 = 2 then (if t.f1 = true ∨ 0 < t.f2.length ∨ t.f3.length ≠ t.f4.length then 3 else 0)
  else 3
set_option maxRecDepth 20000 in
set_option maxHeartbeats 1000000 in
theorem check_form (t : S26) (A2 : Option Addr) (c2 : Nat) (A3 : Option Addr) (c3 : Nat) (A4 : Option Addr) (c4 : Nat) (w : World) (g n deep : Nat) (hblk : w.heap[g]? = some (.cells #[.int .i64 n] 3 (0, 0))) (hn : n < 65536) (hdp : deep ≤ 64) (hf : formE t ≠ 0)
   (hl2 : t.f2.length ≤ 140737488355328) (hl3 : t.f3.length ≤ 140737488355328) (hl4 : t.f4.length ≤ 140737488355328) :
    Calls Tryd.prog 30 #[TV t A2 c2 A3 c3 A4 c4, .int .i64 deep, .pointer (some ⟨g, 0, none⟩)] w fun e w' => e = .returned (.int .i64 (formE t)) ∧ w'.heap[g]? = some (.cells #[.int .i64 (n + 1 : Nat)] 3 (0, 0)) ∧ KeepBut w w' g none ∧ (∀ w0 : World, Below w0.heap.size w0 w → w0.heap.size ≤ g → Below w0.heap.size w0 w') := by
  have hgp : w.heap.size ≠ g := by have := blk_lt hblk; omega
  have hblk1 := blk_alloc hblk (.cells #[.int .i64 t.f0, .bool t.f1, .slice A2 t.f2.length c2, .slice A3 t.f3.length c3, .slice A4 t.f4.length c4] 26)
  have hbox1 : (w.alloc (.cells #[.int .i64 t.f0, .bool t.f1, .slice A2 t.f2.length c2, .slice A3 t.f3.length c3, .slice A4 t.f4.length c4] 26)).heap[w.heap.size]? = some (.cells #[.int .i64 t.f0, .bool t.f1, .slice A2 t.f2.length c2, .slice A3 t.f3.length c3, .slice A4 t.f4.length c4] 26 (0, 0)) := heap_alloc_new w _
  have HG1 := Aside0.mk hblk1
  have HP1 := Aside0.mk hbox1
  have HK1 : Aside0 (KeepBut w (w.alloc (.cells #[.int .i64 t.f0, .bool t.f1, .slice A2 t.f2.length c2, .slice A3 t.f3.length c3, .slice A4 t.f4.length c4] 26)) g none) := ⟨KeepBut.of_below (below_alloc (Below.refl _ w) _) g none⟩
  have HB1 : Aside0 (∀ w0 : World, Below w0.heap.size w0 w → Below w0.heap.size w0 (w.alloc (.cells #[.int .i64 t.f0, .bool t.f1, .slice A2 t.f2.length c2, .slice A3 t.f3.length c3, .slice A4 t.f4.length c4] 26))) := ⟨fun w0 h => below_alloc h _⟩
  have hd1 : ¬ (64 : Int) < (deep : Int) := by omega
  clear hblk hblk1 hbox1
  go_enter Tryd.func30, Tryd.ntmps30
  go_upto_region 1 with fail
  generalize (w.alloc (.cells #[.int .i64 t.f0, .bool t.f1, .slice A2 t.f2.length c2, .slice A3 t.f3.length c3, .slice A4 t.f4.length c4] 26)) = wa at *
  generalize w.heap.size = pp at *
  have cell0 : wa.cell? ⟨g, 0, none⟩ = some (.int .i64 n) := (blk_cell HG1.out 0).trans rfl
  have fr0 : wa.frozen? ⟨g, 0, none⟩ = false := blk_frozen HG1.out 0
  go_upto_region 2 with fail
  obtain ⟨n1, hn1⟩ : ∃ q : Nat, q = n + 1 := ⟨_, rfl⟩
  have hv : (n : Int) + 1 = (n1 : Int) := by omega
  rw [hv]
  have HN1 := Aside0.mk hn1
  have HG2 : Aside0 ((wa.setCell ⟨g, 0, none⟩ (.int .i64 (n1 : Int))).heap[g]? = some (.cells #[.int .i64 (n1 : Int)] 3 (0, 0))) := ⟨by simpa using blk_set HG1.out 0 (.int .i64 (n1 : Int))⟩
  have HG3 : Aside0 ((wa.setCell ⟨g, 0, none⟩ (.int .i64 (n1 : Int))).heap[g]? = some (.cells #[.int .i64 ((n : Int) + 1)] 3 (0, 0))) := ⟨by rw [HG2.out, hn1]; simp⟩
  have HP2 := Aside0.mk (blk_far HP1.out (p := ⟨g, 0, none⟩) hgp (.int .i64 (n1 : Int)))
  have HK2 := Aside0.mk (HK1.out.set_ 0 (.int .i64 (n1 : Int)))
  have HB2 : Aside0 (∀ w0 : World, Below w0.heap.size w0 w → w0.heap.size ≤ g → Below w0.heap.size w0 (wa.setCell ⟨g, 0, none⟩ (.int .i64 (n1 : Int)))) := ⟨fun w0 h hg => below_set (HB1.out w0 h) hg⟩
  generalize (wa.setCell ⟨g, 0, none⟩ (.int .i64 (n1 : Int))) = w2 at *
  clear cell0 fr0 HG1 HP1 HK1 hv HB1
  have hn2 : ¬ (65536 : Int) < (n1 : Int) := by omega
  clear hn1 hn
  have cell0 : w2.cell? ⟨g, 0, none⟩ = some (.int .i64 n1) := (blk_cell HG2.out 0).trans rfl
  obtain ⟨b0, b1, b2, b3, b4⟩ := cells5 HP2.out
  obtain ⟨E, hE⟩ : ∃ x, formE t = x := ⟨_, rfl⟩
  have HFE := Aside0.mk hE
  have HNE : Aside0 (E ≠ 0) := ⟨hE ▸ hf⟩
  unfold formE at hE
  clear hf
  by_cases k1 : t.f0 = 1
  · rw [if_pos k1] at hE
    rw [k1] at b0
    by_cases q1 : 0 < t.f3.length
    · rw [if_pos (.inl q1)] at hE
      have q1' : (0 : Int) < (t.f3.length : Int) := by omega
      have HE := Aside0.mk hE
      clear hE
      go_wp2_with fail
      exact bodyPost_ret (v := .int .i64 3) (by simp [results, Tryd.results30, go_sem]) rfl ⟨by rw [HFE.out, ← HE.out], HG3.out, HK2.out, HB2.out⟩
    · by_cases q2 : 0 < t.f4.length
      · rw [if_pos (.inr q2)] at hE
        have q1' : ¬ (0 : Int) < (t.f3.length : Int) := by omega
        have q2' : (0 : Int) < (t.f4.length : Int) := by omega
        have HE := Aside0.mk hE
        clear hE
        go_wp2_with fail
        exact bodyPost_ret (v := .int .i64 3) (by simp [results, Tryd.results30, go_sem]) rfl ⟨by rw [HFE.out, ← HE.out], HG3.out, HK2.out, HB2.out⟩
      · rw [if_neg (by omega)] at hE
        by_cases q3 : 1048576 < t.f2.length
        · rw [if_pos q3] at hE
          have q1' : ¬ (0 : Int) < (t.f3.length : Int) := by omega
          have q2' : ¬ (0 : Int) < (t.f4.length : Int) := by omega
          have q3' : (1048576 : Int) < (t.f2.length : Int) := by omega
          have HE := Aside0.mk hE
          clear hE
          go_wp2_with fail
          exact bodyPost_ret (v := .int .i64 5) (by simp [results, Tryd.results30, go_sem]) rfl ⟨by rw [HFE.out, ← HE.out], HG3.out, HK2.out, HB2.out⟩
        · rw [if_neg q3] at hE
          exact absurd hE.symm HNE.out
  · rw [if_neg k1] at hE
    by_cases k3 : t.f0 = 3
    · rw [if_pos k3] at hE
      rw [k3] at b0
      by_cases q0 : t.f1 = true
      · rw [if_pos (.inl q0)] at hE
        rw [q0] at b1
        have HE := Aside0.mk hE
        clear hE
        go_wp2_with fail
        exact bodyPost_ret (v := .int .i64 3) (by simp [results, Tryd.results30, go_sem]) rfl ⟨by rw [HFE.out, ← HE.out], HG3.out, HK2.out, HB2.out⟩
      · have q0' : t.f1 = false := by simpa using q0
        rw [q0'] at b1 hE
        by_cases q1 : 0 < t.f3.length
        · rw [if_pos (.inr (.inl q1))] at hE
          have q1' : (0 : Int) < (t.f3.length : Int) := by omega
          have HE := Aside0.mk hE
          clear hE
          go_wp2_with fail
          exact bodyPost_ret (v := .int .i64 3) (by simp [results, Tryd.results30, go_sem]) rfl ⟨by rw [HFE.out, ← HE.out], HG3.out, HK2.out, HB2.out⟩
        · by_cases q2 : 0 < t.f4.length
          · rw [if_pos (.inr (.inr q2))] at hE
            have q1' : ¬ (0 : Int) < (t.f3.length : Int) := by omega
            have q2' : (0 : Int) < (t.f4.length : Int) := by omega
            have HE := Aside0.mk hE
            clear hE
            go_wp2_with fail
            exact bodyPost_ret (v := .int .i64 3) (by simp [results, Tryd.results30, go_sem]) rfl ⟨by rw [HFE.out, ← HE.out], HG3.out, HK2.out, HB2.out⟩
          · have hno : ¬ (false = true ∨ 0 < t.f3.length ∨ 0 < t.f4.length) := by rintro (h | h | h); (· cases h); (· exact q1 h); exact q2 h
            rw [if_neg hno] at hE
            have q1' : ¬ (0 : Int) < (t.f3.length : Int) := by omega
            have q2' : ¬ (0 : Int) < (t.f4.length : Int) := by omega
            by_cases q3 : 1000 < t.f2.length
            · rw [if_pos q3] at hE
              have q3' : (1000 : Int) < (t.f2.length : Int) := by omega
              have HE := Aside0.mk hE
              clear hE
              go_wp2_with fail
              exact bodyPost_ret (v := .int .i64 5) (by simp [results, Tryd.results30, go_sem]) rfl ⟨by rw [HFE.out, ← HE.out], HG3.out, HK2.out, HB2.out⟩
            · rw [if_neg q3] at hE
              have q3' : ¬ (1000 : Int) < (t.f2.length : Int) := by omega
              by_cases q4 : t.f2.length = 0
              · rw [if_pos q4] at hE
                have q4' : ((t.f2.length : Int) == 0) = true := by simp [q4]
                have HE := Aside0.mk hE
                clear hE
                go_wp2_with fail
                exact bodyPost_ret (v := .int .i64 3) (by simp [results, Tryd.results30, go_sem]) rfl ⟨by rw [HFE.out, ← HE.out], HG3.out, HK2.out, HB2.out⟩
              · rw [if_neg q4] at hE
                exact absurd hE.symm HNE.out
    · rw [if_neg k3] at hE
      by_cases k2 : t.f0 = 2
      · rw [if_pos k2] at hE
        rw [k2] at b0
        by_cases q0 : t.f1 = true
        · rw [if_pos (.inl q0)] at hE
          rw [q0] at b1
          have HE := Aside0.mk hE
          clear hE
          go_wp2_with fail
          exact bodyPost_ret (v := .int .i64 3) (by simp [results, Tryd.results30, go_sem]) rfl ⟨by rw [HFE.out, ← HE.out], HG3.out, HK2.out, HB2.out⟩
        · have q0' : t.f1 = false := by simpa using q0
          rw [q0'] at b1 hE
          by_cases q1 : 0 < t.f2.length
          · rw [if_pos (.inr (.inl q1))] at hE
            have q1' : (0 : Int) < (t.f2.length : Int) := by omega
            have HE := Aside0.mk hE
            clear hE
            go_wp2_with fail
            exact bodyPost_ret (v := .int .i64 3) (by simp [results, Tryd.results30, go_sem]) rfl ⟨by rw [HFE.out, ← HE.out], HG3.out, HK2.out, HB2.out⟩
          · by_cases q2 : t.f3.length ≠ t.f4.length
            · rw [if_pos (.inr (.inr q2))] at hE
              have q1' : ¬ (0 : Int) < (t.f2.length : Int) := by omega
              have q2' : ((t.f3.length : Int) != (t.f4.length : Int)) = true := by simp; omega
              have HE := Aside0.mk hE
              clear hE
              go_wp2_with fail
              exact bodyPost_ret (v := .int .i64 3) (by simp [results, Tryd.results30, go_sem]) rfl ⟨by rw [HFE.out, ← HE.out], HG3.out, HK2.out, HB2.out⟩
            · have hno : ¬ (false = true ∨ 0 < t.f2.length ∨ t.f3.length ≠ t.f4.length) := by rintro (h | h | h); (· cases h); (· exact q1 h); exact q2 h
              rw [if_neg hno] at hE
              exact absurd hE.symm HNE.out
      · rw [if_neg k2] at hE
        have e1 : (t.f0 == 1) = false := by simpa using k1
        have e2 : (t.f0 == 2) = false := by simpa using k2
        have e3 : (t.f0 == 3) = false := by simpa using k3
        have HE := Aside0.mk hE
        clear hE
        go_wp2_with fail
        exact bodyPost_ret (v := .int .i64 3) (by simp [results, Tryd.results30, go_sem]) rfl ⟨by rw [HFE.out, ← HE.out], HG3.out, HK2.out, HB2.out⟩
set_option maxRecDepth 20000 in
set_option maxHeartbeats 1000000 in
theorem check_long (t : S26) (A2 : Option Addr) (c2 : Nat) (A3 : Option Addr) (c3 : Nat) (A4 : Option Addr) (c4 : Nat) (w : World) (g n deep : Nat) (hblk : w.heap[g]? = some (.cells #[.int .i64 n] 3 (0, 0))) (hn : n ≤ 65536) (hdp : deep ≤ 65) (hf : 65536 < n + 1 ∨ 64 < deep)
   (hl2 : t.f2.length ≤ 140737488355328) (hl3 : t.f3.length ≤ 140737488355328) (hl4 : t.f4.length ≤ 140737488355328) :
    Calls Tryd.prog 30 #[TV t A2 c2 A3 c3 A4 c4, .int .i64 deep, .pointer (some ⟨g, 0, none⟩)] w fun e w' => e = .returned (.int .i64 5) ∧ w'.heap[g]? = some (.cells #[.int .i64 (n + 1 : Nat)] 3 (0, 0)) ∧ KeepBut w w' g none ∧ (∀ w0 : World, Below w0.heap.size w0 w → w0.heap.size ≤ g → Below w0.heap.size w0 w') := by
  have hgp : w.heap.size ≠ g := by have := blk_lt hblk; omega
  have hblk1 := blk_alloc hblk (.cells #[.int .i64 t.f0, .bool t.f1, .slice A2 t.f2.length c2, .slice A3 t.f3.length c3, .slice A4 t.f4.length c4] 26)
  have hbox1 : (w.alloc (.cells #[.int .i64 t.f0, .bool t.f1, .slice A2 t.f2.length c2, .slice A3 t.f3.length c3, .slice A4 t.f4.length c4] 26)).heap[w.heap.size]? = some (.cells #[.int .i64 t.f0, .bool t.f1, .slice A2 t.f2.length c2, .slice A3 t.f3.length c3, .slice A4 t.f4.length c4] 26 (0, 0)) := heap_alloc_new w _
  have HG1 := Aside0.mk hblk1
  have HP1 := Aside0.mk hbox1
  have HK1 : Aside0 (KeepBut w (w.alloc (.cells #[.int .i64 t.f0, .bool t.f1, .slice A2 t.f2.length c2, .slice A3 t.f3.length c3, .slice A4 t.f4.length c4] 26)) g none) := ⟨KeepBut.of_below (below_alloc (Below.refl _ w) _) g none⟩
  have HB1 : Aside0 (∀ w0 : World, Below w0.heap.size w0 w → Below w0.heap.size w0 (w.alloc (.cells #[.int .i64 t.f0, .bool t.f1, .slice A2 t.f2.length c2, .slice A3 t.f3.length c3, .slice A4 t.f4.length c4] 26))) := ⟨fun w0 h => below_alloc h _⟩
  clear hblk hblk1 hbox1
  go_enter Tryd.func30, Tryd.ntmps30
  go_upto_region 1 with fail
  generalize (w.alloc (.cells #[.int .i64 t.f0, .bool t.f1, .slice A2 t.f2.length c2, .slice A3 t.f3.length c3, .slice A4 t.f4.length c4] 26)) = wa at *
  generalize w.heap.size = pp at *
  have cell0 : wa.cell? ⟨g, 0, none⟩ = some (.int .i64 n) := (blk_cell HG1.out 0).trans rfl
  have fr0 : wa.frozen? ⟨g, 0, none⟩ = false := blk_frozen HG1.out 0
  go_upto_region 2 with fail
  obtain ⟨n1, hn1⟩ : ∃ q : Nat, q = n + 1 := ⟨_, rfl⟩
  have hv : (n : Int) + 1 = (n1 : Int) := by omega
  rw [hv]
  have HN1 := Aside0.mk hn1
  have HG2 : Aside0 ((wa.setCell ⟨g, 0, none⟩ (.int .i64 (n1 : Int))).heap[g]? = some (.cells #[.int .i64 (n1 : Int)] 3 (0, 0))) := ⟨by simpa using blk_set HG1.out 0 (.int .i64 (n1 : Int))⟩
  have HG3 : Aside0 ((wa.setCell ⟨g, 0, none⟩ (.int .i64 (n1 : Int))).heap[g]? = some (.cells #[.int .i64 ((n : Int) + 1)] 3 (0, 0))) := ⟨by rw [HG2.out, hn1]; simp⟩
  have HP2 := Aside0.mk (blk_far HP1.out (p := ⟨g, 0, none⟩) hgp (.int .i64 (n1 : Int)))
  have HK2 := Aside0.mk (HK1.out.set_ 0 (.int .i64 (n1 : Int)))
  have HB2 : Aside0 (∀ w0 : World, Below w0.heap.size w0 w → w0.heap.size ≤ g → Below w0.heap.size w0 (wa.setCell ⟨g, 0, none⟩ (.int .i64 (n1 : Int)))) := ⟨fun w0 h hg => below_set (HB1.out w0 h) hg⟩
  generalize (wa.setCell ⟨g, 0, none⟩ (.int .i64 (n1 : Int))) = w2 at *
  clear cell0 fr0 HG1 HP1 HK1 hv HB1
  have cell0 : w2.cell? ⟨g, 0, none⟩ = some (.int .i64 n1) := (blk_cell HG2.out 0).trans rfl
  obtain ⟨b0, b1, b2, b3, b4⟩ := cells5 HP2.out
  by_cases hq : 65536 < n1
  · have hq' : (65536 : Int) < (n1 : Int) := by omega
    clear hf hn1 hn
    go_wp2_with fail
    exact bodyPost_ret (v := .int .i64 5) (by simp [results, Tryd.results30, go_sem]) rfl ⟨rfl, HG3.out, HK2.out, HB2.out⟩
  · have hq' : ¬ (65536 : Int) < (n1 : Int) := by omega
    have hq2 : 64 < deep := by omega
    have hq3 : (64 : Int) < (deep : Int) := by omega
    clear hf hn1 hn
    go_wp2_with fail
    exact bodyPost_ret (v := .int .i64 5) (by simp [results, Tryd.results30, go_sem]) rfl ⟨rfl, HG3.out, HK2.out, HB2.out⟩
end Go.Proofs.YtfnofjcdaghniaaDoor.Tree
namespace Go.Proofs.YtfnofjcdaghniaaDoor.Tree
set_option linter.unusedVariables false
set_option linter.unusedSimpArgs false
open Go.RowKit Go.Proofs.YtfnofjcdaghniaaDoor.PL Go.Proofs.YtfnofjcdaghniaaDoor.Mt Go.Proofs.YtfnofjcdaghniaaDoorW.PrintWords Go.Proofs.YtfnofjcdaghniaaDoorW.PrintLast Go.Proofs.YtfnofjcdaghniaaDoorW.PrintMore
def nameLe (a b : ByteArray) : Bool := Op.bytesLess a.toList b.toList || a.toList == b.toList
/-- a name in its place: an entry's name, and above the one ahead of it -/
def nOK (l : List ByteArray) (i : Nat) : Bool := isE (rdOf ByteArray.empty l (i : Int)) && (i == 0 || !nameLe (rdOf ByteArray.empty l (i : Int)) (rdOf ByteArray.empty l ((i - 1 : Nat) : Int)))
def namesOK (l : List ByteArray) : Prop := ∀ i, i < l.length → nOK l i = true
def kidsC (f : S26 → Nat → Int × Nat) : List S26 → Nat → Int × Nat
  | [], n => (0, n)
  | a :: l, n => if (f a n).1 ≠ 0 then f a n else kidsC f l (f a n).2
open Classical in
/-- what check tells, and how many nodes it has counted -/
noncomputable def chk : Nat → S26 → Nat → Nat → Int × Nat
  | 0, _, _, n => (0, n)
  | N + 1, t, deep, n =>
    if 65536 < n + 1 ∨ 64 < deep then (5, n + 1)
    else if formE t ≠ 0 then (formE t, n + 1)
    else if ¬ namesOK t.f3 then (9, n + 1)
    else kidsC (fun u m => chk N u (deep + 1) m) t.f4 (n + 1)
theorem kidsC_le (f : S26 → Nat → Int × Nat) (hf : ∀ u m, m ≤ 65536 → (f u m).1 = 0 → (f u m).2 ≤ 65536) : ∀ (l : List S26) (m : Nat), m ≤ 65536 → (kidsC f l m).1 = 0 → (kidsC f l m).2 ≤ 65536 := by
  intro l
  induction l with
  | nil => intro m hm _; exact hm
  | cons a l ih =>
    intro m hm h
    rw [kidsC] at h ⊢
    by_cases h0 : (f a m).1 ≠ 0
    · rw [if_pos h0] at h; exact absurd h h0
    · rw [if_neg h0] at h ⊢
      exact ih _ (hf a m hm (Classical.not_not.1 h0)) h
theorem chk_le : ∀ (N : Nat) (t : S26) (deep n : Nat), n ≤ 65536 → (chk N t deep n).1 = 0 → (chk N t deep n).2 ≤ 65536 := by
  intro N
  induction N with
  | zero => intro t deep n hn _; exact hn
  | succ N ih =>
    intro t deep n hn h
    rw [chk] at h ⊢
    split at h
    · cases h
    · rename_i q1
      rw [if_neg q1]
      split at h
      · rename_i q2; exact absurd h q2
      · rename_i q2
        rw [if_neg q2]
        split at h
        · cases h
        · rename_i q3
          rw [if_neg q3]
          exact kidsC_le _ (fun u m hm h => ih u (deep + 1) m hm h) _ _ (by omega) h
/-- check's contract for trees of at most so many floors -/
def CK (w0 : World) (N : Nat) : Prop := ∀ (t : S26) (A2 : Option Addr) (c2 : Nat) (A3 : Option Addr) (c3 : Nat) (A4 : Option Addr) (c4 : Nat) (w : World) (g n deep : Nat), TR w0 t A2 c2 A3 c3 A4 c4 → GT N t → Below w0.heap.size w0 w → w0.heap.size ≤ g → w.heap[g]? = some (.cells #[.int .i64 n] 3 (0, 0)) → n ≤ 65536 → deep ≤ 65 →
    Calls Tryd.prog 30 #[TV t A2 c2 A3 c3 A4 c4, .int .i64 deep, .pointer (some ⟨g, 0, none⟩)] w fun e w' => e = .returned (.int .i64 (chk N t deep n).1) ∧ w'.heap[g]? = some (.cells #[.int .i64 ((chk N t deep n).2 : Int)] 3 (0, 0)) ∧ KeepBut w w' g none ∧ Below w0.heap.size w0 w'
set_option maxRecDepth 20000 in
set_option maxHeartbeats 2000000 in
theorem check_step (w0 : World) (N : Nat) (ih : CK w0 N) (t : S26) (A2 : Option Addr) (c2 : Nat) (A3 : Option Addr) (c3 : Nat) (A4 : Option Addr) (c4 : Nat) (w : World) (g n deep : Nat) (h : TR w0 t A2 c2 A3 c3 A4 c4) (hG : GT (N + 1) t) (hB : Below w0.heap.size w0 w) (hg : w0.heap.size ≤ g) (hblk : w.heap[g]? = some (.cells #[.int .i64 n] 3 (0, 0))) (hn : n < 65536) (hdp : deep ≤ 64) (hf : formE t = 0) :
    Calls Tryd.prog 30 #[TV t A2 c2 A3 c3 A4 c4, .int .i64 deep, .pointer (some ⟨g, 0, none⟩)] w fun e w' => e = .returned (.int .i64 (chk (N + 1) t deep n).1) ∧ w'.heap[g]? = some (.cells #[.int .i64 ((chk (N + 1) t deep n).2 : Int)] 3 (0, 0)) ∧ KeepBut w w' g none ∧ Below w0.heap.size w0 w' := by
    have IH := Aside0.mk ih
    clear ih
    obtain ⟨hd1, hd2, hn1, hn2, hk1, hk2⟩ := h
    obtain ⟨hG0, ⟨hG1, hG2, _⟩, ⟨hG3, hG4, hG5⟩, hG6, hG7, hG8⟩ := hG
    have HNM := Aside0.mk hn2
    have HKK := Aside0.mk hk2
    have HG5 := Aside0.mk hG5
    have HG8 := Aside0.mk hG8
    have HB := Aside0.mk hB
    have hgp : w.heap.size ≠ g := by have := blk_lt hblk; omega
    have HG1 := Aside0.mk (blk_alloc hblk (.cells #[.int .i64 t.f0, .bool t.f1, .slice A2 t.f2.length c2, .slice A3 t.f3.length c3, .slice A4 t.f4.length c4] 26))
    have HP1 := Aside0.mk (heap_alloc_new w (.cells #[.int .i64 t.f0, .bool t.f1, .slice A2 t.f2.length c2, .slice A3 t.f3.length c3, .slice A4 t.f4.length c4] 26))
    have HK1 : Aside0 (KeepBut w (w.alloc (.cells #[.int .i64 t.f0, .bool t.f1, .slice A2 t.f2.length c2, .slice A3 t.f3.length c3, .slice A4 t.f4.length c4] 26)) g none) := ⟨KeepBut.of_below (below_alloc (Below.refl _ w) _) g none⟩
    have HB1 := Aside0.mk (below_alloc HB.out (.cells #[.int .i64 t.f0, .bool t.f1, .slice A2 t.f2.length c2, .slice A3 t.f3.length c3, .slice A4 t.f4.length c4] 26))
    have hd1 : ¬ (64 : Int) < (deep : Int) := by omega
    have HF := Aside0.mk hf
    clear hblk hn2 hk2 hd2 hG5 hG8 hB hf
    go_enter Tryd.func30, Tryd.ntmps30
    go_upto_region 1 with fail
    generalize (w.alloc (.cells #[.int .i64 t.f0, .bool t.f1, .slice A2 t.f2.length c2, .slice A3 t.f3.length c3, .slice A4 t.f4.length c4] 26)) = wa at *
    generalize w.heap.size = pp at *
    have cell0 : wa.cell? ⟨g, 0, none⟩ = some (.int .i64 n) := (blk_cell HG1.out 0).trans rfl
    have fr0 : wa.frozen? ⟨g, 0, none⟩ = false := blk_frozen HG1.out 0
    go_upto_region 2 with fail
    obtain ⟨n1, hn1⟩ : ∃ q : Nat, q = n + 1 := ⟨_, rfl⟩
    have hv : (n : Int) + 1 = (n1 : Int) := by omega
    rw [hv]
    have HN1 := Aside0.mk hn1
    have HG2 : Aside0 ((wa.setCell ⟨g, 0, none⟩ (.int .i64 (n1 : Int))).heap[g]? = some (.cells #[.int .i64 (n1 : Int)] 3 (0, 0))) := ⟨by simpa using blk_set HG1.out 0 (.int .i64 (n1 : Int))⟩
    have HP2 := Aside0.mk (blk_far HP1.out (p := ⟨g, 0, none⟩) hgp (.int .i64 (n1 : Int)))
    have HK2 := Aside0.mk (HK1.out.set_ 0 (.int .i64 (n1 : Int)))
    have HB2 : Aside0 (Below w0.heap.size w0 (wa.setCell ⟨g, 0, none⟩ (.int .i64 (n1 : Int)))) := ⟨below_set HB1.out hg⟩
    generalize (wa.setCell ⟨g, 0, none⟩ (.int .i64 (n1 : Int))) = w2 at *
    clear cell0 fr0 HG1 HP1 HK1 hv HB1
    have hn2 : ¬ (65536 : Int) < (n1 : Int) := by omega
    clear hn1 hn
    have cell0 : w2.cell? ⟨g, 0, none⟩ = some (.int .i64 n1) := (blk_cell HG2.out 0).trans rfl
    obtain ⟨b0, b1, b2, b3, b4⟩ := cells5 HP2.out
    have hw : (t.f0 = 1 ∧ ¬ (0 : Int) < t.f3.length ∧ ¬ (0 : Int) < t.f4.length ∧ ¬ (1048576 : Int) < t.f2.length) ∨
        (t.f0 = 3 ∧ t.f1 = false ∧ ¬ (0 : Int) < t.f3.length ∧ ¬ (0 : Int) < t.f4.length ∧ ¬ (1000 : Int) < t.f2.length ∧ ((t.f2.length : Int) == 0) = false) ∨
        (t.f0 = 2 ∧ t.f1 = false ∧ ¬ (0 : Int) < t.f2.length ∧ ((t.f3.length : Int) != (t.f4.length : Int)) = false) := by
      have hf := HF.out
      unfold formE at hf
      by_cases k1 : t.f0 = 1
      · rw [if_pos k1] at hf
        refine .inl ⟨k1, ?_⟩
        split at hf
        · cases hf
        · split at hf
          · cases hf
          · omega
      · rw [if_neg k1] at hf
        by_cases k3 : t.f0 = 3
        · rw [if_pos k3] at hf
          refine .inr (.inl ⟨k3, ?_⟩)
          split at hf
          · cases hf
          · rename_i q
            split at hf
            · cases hf
            · split at hf
              · cases hf
              · rename_i q2 q3
                refine ⟨by cases hq : t.f1 with | false => rfl | true => exact absurd (.inl hq) q, by omega, by omega, by omega, by simpa using q3⟩
        · rw [if_neg k3] at hf
          by_cases k2 : t.f0 = 2
          · rw [if_pos k2] at hf
            refine .inr (.inr ⟨k2, ?_⟩)
            split at hf
            · cases hf
            · rename_i q
              refine ⟨by cases hq : t.f1 with | false => rfl | true => exact absurd (.inl hq) q, by omega, ?_⟩
              have : t.f3.length = t.f4.length := by omega
              rw [this]; simp
          · rw [if_neg k2] at hf; cases hf
    rcases hw with ⟨k1, q1, q2, q3⟩ | ⟨k3, q0, q1, q2, q3, q4⟩ | ⟨k2, q0, q1, q2⟩
    case' inl =>
      rw [k1] at b0
      have p1 : ¬ 0 < t.f3.length := by omega
      have p2 : ¬ 0 < t.f4.length := by omega
      have p3 : ¬ 1048576 < t.f2.length := by omega
      go_wp2_with fail
      clear p1 p2 p3 q1 q2 q3
    case' inr.inl =>
      rw [k3] at b0
      rw [q0] at b1
      have p1 : ¬ 0 < t.f3.length := by omega
      have p2 : ¬ 0 < t.f4.length := by omega
      have p3 : ¬ 1000 < t.f2.length := by omega
      go_wp2_with fail
      clear p1 p2 p3 q1 q2 q3 q4 q0
    case' inr.inr =>
      rw [k2] at b0
      rw [q0] at b1
      have p1 : ¬ 0 < t.f2.length := by omega
      go_wp2_with fail
      clear p1 q1 q2 q0
    all_goals
      clear b0 b1 b2 b3 b4 cell0
      go_loopw [93] (fun v wr => ∃ (k : Nat), v = .int .i64 (k : Int) ∧ k ≤ t.f3.length ∧ Aside0 (∀ i, i < k → nOK t.f3 i = true) ∧ Aside0 (wr.heap[g]? = some (.cells #[.int .i64 (n1 : Int)] 3 (0, 0))) ∧ Aside0 (wr.heap[pp]? = some (.cells #[.int .i64 t.f0, .bool t.f1, .slice A2 t.f2.length c2, .slice A3 t.f3.length c3, .slice A4 t.f4.length c4] 26 (0, 0))) ∧ Aside0 (Below w0.heap.size w0 wr) ∧ Aside0 (KeepBut w wr g none)) (fun v _ => t.f3.length - (intOf v).toNat)
      case atStart => exact ⟨0, rfl, Nat.zero_le _, ⟨fun i hi => absurd hi (Nat.not_lt_zero i)⟩, HG2, HP2, HB2, HK2⟩
      case round =>
        obtain ⟨k, rfl, hk, HOK, HG, HP, HBk, HKk⟩ := hrel
        by_cases hlt : k < t.f3.length
        · obtain ⟨ad, hA, hcs⟩ := Kd.at_string (Kd.C_below HNM.out HBk.out) (k : Int) (by omega) (by omega)
          obtain ⟨s, hs⟩ : ∃ x, rdOf ByteArray.empty t.f3 (k : Int) = x := ⟨_, rfl⟩
          rw [hs, Int.toNat_natCast] at hcs
          have HS := Aside0.mk hs
          clear hs
          obtain ⟨b0, b1, b2, b3, b4⟩ := cells5 HP.out
          clear b0 b1 b2 b4
          subst hA
          go_wp2_with fail
          refine (isEntry_any s wr).mono ?_
          rintro e_ w3 ⟨rfl, rfl⟩
          by_cases he : isE s = true
          · rw [he]
            by_cases hk0 : k = 0
            · subst hk0
              go_wp2_with fail
              have hOK0 : nOK t.f3 0 = true := by unfold nOK; rw [HS.out, he]; rfl
              exact ⟨⟨1, by go_num, by omega, ⟨fun i hi => (Nat.lt_one_iff.1 hi) ▸ hOK0⟩, HG, HP, HBk, HKk⟩, by simp [intOf]; omega⟩
            · obtain ⟨ad2, hA2, hcs2⟩ := Kd.at_string (Kd.C_below HNM.out HBk.out) ((k - 1 : Nat) : Int) (by omega) (by omega)
              obtain rfl := Option.some.inj hA2
              rw [Int.toNat_natCast] at hcs2
              obtain ⟨s2, hs2⟩ : ∃ x, rdOf ByteArray.empty t.f3 ((k - 1 : Nat) : Int) = x := ⟨_, rfl⟩
              rw [hs2] at hcs2
              have HS2 := Aside0.mk hs2
              clear hs2
              have e1 : IntKind.i64.wrap ((k : Int) - 1) = ((k - 1 : Nat) : Int) := by rw [show ((k : Int) - 1) = ((k - 1 : Nat) : Int) by omega]; rw [IntKind.wrap_i64]; omega
              have e2 : (k : Int) - 1 = ((k - 1 : Nat) : Int) := by omega
              have hk1 : (0 : Int) < (k : Int) := by omega
              have hk2 : ((k - 1 : Nat) : Int) < (t.f3.length : Int) := by omega
              cases hq : (Op.bytesLess s.toList s2.toList || s.toList == s2.toList) with
              | false =>
                have hOKk : nOK t.f3 k = true := by
                  unfold nOK nameLe
                  rw [HS.out, HS2.out, he, hq]
                  simp
                go_wp2_with fail
                refine ⟨⟨k + 1, by go_num, by omega, ⟨fun i hi => ?_⟩, HG, HP, HBk, HKk⟩, by simp [intOf]; omega⟩
                rcases Nat.lt_succ_iff_lt_or_eq.1 hi with h | h
                · exact HOK.out i h
                · exact h ▸ hOKk
              | true =>
                have hbad : ¬ namesOK t.f3 := fun h => by
                  have h9 := h k hlt
                  unfold nOK nameLe at h9
                  rw [HS.out, HS2.out, he, hq] at h9
                  simp at h9
                  exact hk0 h9
                have HC : Aside0 (chk (N + 1) t deep n = (9, n + 1)) := ⟨by rw [chk, if_neg (by have := HN1.out; omega), if_neg (by rw [HF.out]; simp), if_pos hbad]⟩
                go_wp2_with fail
                exact bodyPost_ret (v := .int .i64 9) (by simp [results, Tryd.results30, go_sem]) rfl ⟨by rw [HC.out], by rw [HC.out]; show _ = some (Obj.cells #[.int .i64 ((n + 1 : Nat) : Int)] 3 (0, 0)); rw [← HN1.out]; exact HG.out, HKk.out, HBk.out⟩
          · have he' : isE s = false := by simpa using he
            rw [he']
            have hbad : ¬ namesOK t.f3 := fun h => by
              have h9 := h k hlt
              unfold nOK at h9
              rw [HS.out, he'] at h9
              simp at h9
            have HC : Aside0 (chk (N + 1) t deep n = (9, n + 1)) := ⟨by rw [chk, if_neg (by have := HN1.out; omega), if_neg (by rw [HF.out]; simp), if_pos hbad]⟩
            clear hbad
            go_wp2_with fail
            exact bodyPost_ret (v := .int .i64 9) (by simp [results, Tryd.results30, go_sem]) rfl ⟨by rw [HC.out], by rw [HC.out]; show _ = some (Obj.cells #[.int .i64 ((n + 1 : Nat) : Int)] 3 (0, 0)); rw [← HN1.out]; exact HG.out, HKk.out, HBk.out⟩
        · have hkk : k = t.f3.length := by omega
          subst hkk
          have hOKs : namesOK t.f3 := fun i hi => HOK.out i hi
          have HC : Aside0 (chk (N + 1) t deep n = kidsC (fun u m => chk N u (deep + 1) m) t.f4 (n + 1)) := ⟨by rw [chk, if_neg (by have := HN1.out; omega), if_neg (by rw [HF.out]; simp), if_neg (fun h => h hOKs)]⟩
          clear hOKs HOK hlt
          obtain ⟨b0, b1, b2, b3, b4⟩ := cells5 HP.out
          clear b0 b1 b2 b3
          go_wp2_with fail
          have hn9 : n1 ≤ 65536 := by omega
          clear b4
          go_loopw [119] (fun v wr => ∃ (k mm : Nat), v = .int .i64 (k : Int) ∧ k ≤ t.f4.length ∧ mm ≤ 65536 ∧ Aside0 (chk (N + 1) t deep n = kidsC (fun u m => chk N u (deep + 1) m) (t.f4.drop k) mm) ∧ Aside0 (wr.heap[g]? = some (.cells #[.int .i64 (mm : Int)] 3 (0, 0))) ∧ Aside0 (Below w0.heap.size w0 wr) ∧ Aside0 (KeepBut w wr g none)) (fun v _ => t.f4.length - (intOf v).toNat)
          case atStart => exact ⟨0, n1, rfl, Nat.zero_le _, hn9, ⟨by rw [HC.out, HN1.out]; rfl⟩, HG, HBk, HKk⟩
          case round =>
            clear HG HP HBk HKk HC HG2 HP2 HK2 HB2
            obtain ⟨k, mm, rfl, hk, hmm, HC, HG, HBk, HKk⟩ := hrel
            by_cases hlt : k < t.f4.length
            · obtain ⟨ad, B2, d2, B3, d3, B4, d4, hA, e0, e1, e2, e3, e4, r1, r2, r3, r4, r5, r6⟩ := at_T26 HKK.out (k : Int) (by omega) (by omega)
              obtain ⟨u, hu⟩ : ∃ x, rd_T26 t.f4 (k : Int) = x := ⟨_, rfl⟩
              have hue : t.f4[k] = u := by rw [← hu]; unfold rd_T26; rw [Int.toNat_natCast, List.getD_eq_getElem?_getD, List.getElem?_eq_getElem hlt]; rfl
              have HU := Aside0.mk hue
              have HGU : Aside0 (GT N u) := ⟨hue ▸ HG8.out _ (List.getElem_mem hlt)⟩
              rw [hu] at e0 e1 e2 e3 e4 r1 r2 r3 r4 r5 r6
              rw [Int.toNat_natCast] at e0 e1 e2 e3 e4
              have f0 := pw_cell_below HBk.out e0
              have f1 := pw_cell_below HBk.out e1
              have f2 := pw_cell_below HBk.out e2
              have f3 := pw_cell_below HBk.out e3
              have f4 := pw_cell_below HBk.out e4
              have HTR : Aside0 (TR w0 u B2 d2 B3 d3 B4 d4) := ⟨⟨r1, r2, r3, r4, r5, r6⟩⟩
              subst hA
              clear hue hu e0 e1 e2 e3 e4 r1 r2 r3 r4 r5 r6
              have HGb := Aside0.mk (blk_alloc HG.out (.cells #[.int .i64 u.f0, .bool u.f1, .slice B2 u.f2.length d2, .slice B3 u.f3.length d3, .slice B4 u.f4.length d4] 26))
              have HPb := Aside0.mk (heap_alloc_new wr (.cells #[.int .i64 u.f0, .bool u.f1, .slice B2 u.f2.length d2, .slice B3 u.f3.length d3, .slice B4 u.f4.length d4] 26))
              have HBb := Aside0.mk (below_alloc HBk.out (.cells #[.int .i64 u.f0, .bool u.f1, .slice B2 u.f2.length d2, .slice B3 u.f3.length d3, .slice B4 u.f4.length d4] 26))
              have HKb : Aside0 (KeepBut w (wr.alloc (.cells #[.int .i64 u.f0, .bool u.f1, .slice B2 u.f2.length d2, .slice B3 u.f3.length d3, .slice B4 u.f4.length d4] 26)) g none) := ⟨HKk.out.trans (KeepBut.of_below (below_alloc (Below.refl _ wr) _) g none) (.inl rfl)⟩
              have HCC : Aside0 (chk (N + 1) t deep n = if (chk N u (deep + 1) mm).1 ≠ 0 then chk N u (deep + 1) mm else kidsC (fun u m => chk N u (deep + 1) m) (t.f4.drop (k + 1)) (chk N u (deep + 1) mm).2) := ⟨by rw [HC.out, List.drop_eq_getElem_cons hlt, HU.out, kidsC]⟩
              have HLE : Aside0 ((chk N u (deep + 1) mm).1 = 0 → (chk N u (deep + 1) mm).2 ≤ 65536) := ⟨chk_le N u (deep + 1) mm hmm⟩
              go_upto_region 33 with fail
              generalize (wr.alloc (.cells #[.int .i64 u.f0, .bool u.f1, .slice B2 u.f2.length d2, .slice B3 u.f3.length d3, .slice B4 u.f4.length d4] 26)) = wb at *
              generalize wr.heap.size = pb at *
              clear HG HBk HKk HC f0 f1 f2 f3 f4
              obtain ⟨b0, b1, b2, b3, b4⟩ := cells5 HPb.out
              have hCall := IH.out u B2 d2 B3 d3 B4 d4 wb g mm (deep + 1) HTR.out HGU.out HBb.out hg HGb.out hmm (by omega)
              obtain ⟨r1, r2, hr⟩ : ∃ a b, chk N u (deep + 1) mm = (a, b) := ⟨_, _, rfl⟩
              rw [hr] at HCC HLE hCall
              simp only at HCC HLE hCall
              rw [show (((deep + 1 : Nat)) : Int) = (deep : Int) + 1 from by omega] at hCall
              have HCALL := Aside0.mk hCall
              clear hCall hr
              go_wp2_with fail
              refine HCALL.out.mono ?_
              rintro e_ w7 ⟨rfl, hg7, hk7, hb7⟩
              have HG7 := Aside0.mk hg7
              have HK7 : Aside0 (KeepBut w w7 g none) := ⟨HKb.out.trans hk7 (.inl rfl)⟩
              have HB7 := Aside0.mk hb7
              clear hg7 hk7 hb7 HCALL b0 b1 b2 b3 b4
              by_cases hr0 : r1 = 0
              · subst hr0
                have hle := HLE.out rfl
                have HC7 := HCC.out
                rw [if_neg (by simp)] at HC7
                have HC8 := Aside0.mk HC7
                clear HC7 HCC HLE
                go_wp2_with fail
                exact ⟨⟨k + 1, r2, by go_num, by omega, hle, HC8, HG7, HB7, HK7⟩, by simp [intOf]; omega⟩
              · have hne : (r1 != 0) = true := by simpa using hr0
                have HC7 := HCC.out
                rw [if_pos hr0] at HC7
                have HC8 := Aside0.mk HC7
                clear HC7 HCC HLE hr0
                go_wp2_with fail
                exact bodyPost_ret (v := .int .i64 r1) (by simp [results, Tryd.results30, go_sem]) rfl ⟨by rw [HC8.out], by rw [HC8.out]; exact HG7.out, HK7.out, HB7.out⟩
            · have hkk : k = t.f4.length := by omega
              subst hkk
              have HC7 := HC.out
              rw [List.drop_length, kidsC] at HC7
              have HC8 := Aside0.mk HC7
              clear HC7 HC
              go_wp2_with fail
              exact bodyPost_ret (v := .int .i64 0) (by simp [results, Tryd.results30, go_sem]) rfl ⟨by rw [HC8.out], by rw [HC8.out]; exact HG.out, HKk.out, HBk.out⟩
end Go.Proofs.YtfnofjcdaghniaaDoor.Tree
namespace Go.Proofs.YtfnofjcdaghniaaDoor.Tree
set_option linter.unusedVariables false
set_option linter.unusedSimpArgs false
open Go.RowKit Go.Proofs.YtfnofjcdaghniaaDoor.PL Go.Proofs.YtfnofjcdaghniaaDoor.Mt Go.Proofs.YtfnofjcdaghniaaDoorW.PrintWords Go.Proofs.YtfnofjcdaghniaaDoorW.PrintLast Go.Proofs.YtfnofjcdaghniaaDoorW.PrintMore
theorem check_full (w0 : World) : ∀ N, CK w0 N := by
  intro N
  induction N with
  | zero => intro t A2 c2 A3 c3 A4 c4 w g n deep h hG; exact hG.elim
  | succ N ih =>
    intro t A2 c2 A3 c3 A4 c4 w g n deep h hG hB hg hblk hn hdp
    have hG' := hG
    obtain ⟨-, ⟨-, m1, -⟩, ⟨-, m2, -⟩, -, m3, -⟩ := hG'
    by_cases h1 : 65536 < n + 1 ∨ 64 < deep
    · have hc : chk (N + 1) t deep n = (5, n + 1) := by rw [chk, if_pos h1]
      rw [hc]
      refine (check_long t A2 c2 A3 c3 A4 c4 w g n deep hblk hn hdp h1 (by omega) (by omega) (by omega)).mono ?_
      rintro e w' ⟨k1, k2, k3, k4⟩
      exact ⟨k1, k2, k3, k4 w0 hB hg⟩
    · by_cases h2 : formE t ≠ 0
      · have hc : chk (N + 1) t deep n = (formE t, n + 1) := by rw [chk, if_neg h1, if_pos h2]
        rw [hc]
        refine (check_form t A2 c2 A3 c3 A4 c4 w g n deep hblk (by omega) (by omega) h2 (by omega) (by omega) (by omega)).mono ?_
        rintro e w' ⟨k1, k2, k3, k4⟩
        exact ⟨k1, k2, k3, k4 w0 hB hg⟩
      · exact check_step w0 N ih t A2 c2 A3 c3 A4 c4 w g n deep h hG hB hg hblk (by omega) (by omega) (Classical.not_not.1 h2)
set_option maxHeartbeats 400000 in
/-- tree.Check -/
theorem Check_any (N : Nat) (t : S26) (A2 : Option Addr) (c2 : Nat) (A3 : Option Addr) (c3 : Nat) (A4 : Option Addr) (c4 : Nat) (w : World) (h : TR w t A2 c2 A3 c3 A4 c4) (hG : GT N t) :
    Calls Tryd.prog 12 #[TV t A2 c2 A3 c3 A4 c4] w fun e w' => e = .returned (.int .i64 (chk N t 1 0).1) ∧ Below w.heap.size w w' := by
  obtain ⟨wb, hwb⟩ : ∃ x, w.alloc (.cells #[.int .i64 t.f0, .bool t.f1, .slice A2 t.f2.length c2, .slice A3 t.f3.length c3, .slice A4 t.f4.length c4] 26) = x := ⟨_, rfl⟩
  have hbw : Below w.heap.size w wb := hwb ▸ below_alloc (Below.refl _ w) _
  have hsz : wb.heap.size = w.heap.size + 1 := by rw [← hwb]; simp
  have HGR := Aside0.mk (check_full w N t A2 c2 A3 c3 A4 c4 (wb.alloc (.cells #[.int .i64 0] 3)) (w.heap.size + 1) 0 1 h hG (below_alloc hbw _) (by omega) (hsz ▸ heap_alloc_new wb _) (by omega) (by omega))
  rw [← hwb] at HGR
  clear hbw hsz hwb wb h hG
  go_enter Tryd.func12, Tryd.ntmps12
  go_wp2_with fail
  refine HGR.out.mono ?_
  rintro e_ w1 ⟨rfl, hg1, hk1, hb1⟩
  have HB := Aside0.mk hb1
  clear hg1 hk1 hb1 HGR
  go_wp2_with fail
  exact bodyPost_ret (v := .int .i64 (chk N t 1 0).1) (by simp [results, Tryd.results12, go_sem]) rfl ⟨rfl, HB.out⟩
end Go.Proofs.YtfnofjcdaghniaaDoor.Tree
