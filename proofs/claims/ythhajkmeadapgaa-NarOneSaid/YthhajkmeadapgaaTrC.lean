/- tree: isEntry, check. Own work. -/
import Derived.Test.YthhajkmeadapgaaTrB
import Derived.Test.YthhajkmeadapgaaShelf
namespace Go.Proofs.Ythhajkmeadapgaa.Tree
set_option linter.unusedVariables false
set_option linter.unusedSimpArgs false
open Go.RowKit Go.Proofs.Ythhajkmeadapgaa.PL Go.Proofs.Ythhajkmeadapgaa.Mn Go.Proofs.YthhajkmeadapgaaW.PrintWords Go.Proofs.YthhajkmeadapgaaW.PrintLast Go.Proofs.YthhajkmeadapgaaW.PrintMore
def isE (s : ByteArray) : Bool := decide (1 ≤ (s.size : Int)) && decide ((s.size : Int) ≤ 100) && !(s.toList == [46]) && !(s.toList == [46, 46]) && decide (Lib.indexByte s.data.toList 47 < 0) && decide (Lib.indexByte s.data.toList 0 < 0)
set_option maxRecDepth 20000 in
set_option maxHeartbeats 400000 in
theorem isEntry_any (s : ByteArray) (w : World) : Calls Try.prog 63 #[.string s] w fun e w' => e = .returned (.bool (isE s)) ∧ w' = w := by
  have H1 := Aside0.mk (Try.strings_IndexByte s 47 w)
  have H2 := Aside0.mk (Try.strings_IndexByte s 0 w)
  unfold isE
  obtain ⟨i1, hi1⟩ : ∃ x, Lib.indexByte s.data.toList 47 = x := ⟨_, rfl⟩
  obtain ⟨i2, hi2⟩ : ∃ x, Lib.indexByte s.data.toList 0 = x := ⟨_, rfl⟩
  have H1' : Aside0 (Calls Try.prog 80 #[.string s, .int .u8 47] w fun e w' => e = .returned (.int .i64 i1) ∧ w' = w) := ⟨hi1 ▸ H1.out⟩
  have H2' : Aside0 (Calls Try.prog 80 #[.string s, .int .u8 0] w fun e w' => e = .returned (.int .i64 i2) ∧ w' = w) := ⟨hi2 ▸ H2.out⟩
  rw [hi1, hi2]
  clear H1 H2 hi1 hi2
  by_cases h1 : 1 ≤ (s.size : Int)
  · by_cases h2 : (s.size : Int) ≤ 100
    · by_cases h3 : s.toList = [46]
      · have h3b : (s.toList == [46]) = true := by simpa using h3
        have e : (decide (1 ≤ (s.size : Int)) && decide ((s.size : Int) ≤ 100) && !(s.toList == [46]) && !(s.toList == [46, 46]) && decide (i1 < 0) && decide (i2 < 0)) = false := by rw [h3b]; simp
        rw [e]
        clear e H1' H2'
        go_enter Try.func63, Try.ntmps63
        go_wp2_with fail
        go_ret
        exact ⟨rfl, rfl⟩
      · have h3b : (s.toList == [46]) = false := by simpa using h3
        by_cases h4 : s.toList = [46, 46]
        · have h4b : (s.toList == [46, 46]) = true := by simpa using h4
          have e : (decide (1 ≤ (s.size : Int)) && decide ((s.size : Int) ≤ 100) && !(s.toList == [46]) && !(s.toList == [46, 46]) && decide (i1 < 0) && decide (i2 < 0)) = false := by rw [h4b]; simp
          rw [e]
          clear e H1' H2'
          go_enter Try.func63, Try.ntmps63
          go_wp2_with fail
          go_ret
          exact ⟨rfl, rfl⟩
        · have h4b : (s.toList == [46, 46]) = false := by simpa using h4
          rw [decide_eq_true h1, decide_eq_true h2, h3b, h4b]
          by_cases h5 : i1 < 0
          · rw [decide_eq_true h5]
            go_enter Try.func63, Try.ntmps63
            go_wp2_with (go_at_call 80; first | (with_reducible refine H1'.out.mono ?_; rintro e_ w1 ⟨rfl, rfl⟩) | (with_reducible refine H2'.out.mono ?_; rintro e_ w1 ⟨rfl, rfl⟩))
            go_ret
            exact ⟨by simp, rfl⟩
          · rw [decide_eq_false h5]
            go_enter Try.func63, Try.ntmps63
            go_wp2_with (go_at_call 80; first | (with_reducible refine H1'.out.mono ?_; rintro e_ w1 ⟨rfl, rfl⟩) | (with_reducible refine H2'.out.mono ?_; rintro e_ w1 ⟨rfl, rfl⟩))
            go_ret
            exact ⟨by simp, rfl⟩
    · have e : (decide (1 ≤ (s.size : Int)) && decide ((s.size : Int) ≤ 100) && !(s.toList == [46]) && !(s.toList == [46, 46]) && decide (i1 < 0) && decide (i2 < 0)) = false := by rw [decide_eq_false h2]; simp
      rw [e]
      go_enter Try.func63, Try.ntmps63
      go_wp2_with fail
      go_ret
      exact ⟨rfl, rfl⟩
  · have e : (decide (1 ≤ (s.size : Int)) && decide ((s.size : Int) ≤ 100) && !(s.toList == [46]) && !(s.toList == [46, 46]) && decide (i1 < 0) && decide (i2 < 0)) = false := by rw [decide_eq_false h1]; simp
    rw [e]
    go_enter Try.func63, Try.ntmps63
    go_wp2_with fail
    go_ret
    exact ⟨rfl, rfl⟩
end Go.Proofs.Ythhajkmeadapgaa.Tree
