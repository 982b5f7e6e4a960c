/- the reference's IsEntry. Own work. -/
import Derived.Test.YthhajkmeadapgaaRfE
import Derived.Test.YthhajkmeadapgaaRfF
import Derived.Lib.IndexAny
namespace Go.Proofs.Ythhajkmeadapgaa.Tree
set_option linter.unusedVariables false
set_option linter.unusedSimpArgs false
open Go.RowKit Go.Proofs.Ythhajkmeadapgaa.PL Go.Proofs.Ythhajkmeadapgaa.Mn Go.Proofs.YthhajkmeadapgaaW.PrintWords Go.Proofs.YthhajkmeadapgaaW.PrintLast Go.Proofs.YthhajkmeadapgaaW.PrintMore
theorem index_neg (l : List UInt8) (c : UInt8) : decide (Lib.indexByte l c < 0) = !l.contains c := by
  rw [Lib.contains_iff_indexByte]
  by_cases h : Lib.indexByte l c < 0
  · rw [decide_eq_true h, decide_eq_false (by omega)]; rfl
  · rw [decide_eq_false h, decide_eq_true (by omega)]; rfl
theorem ba_get (s : ByteArray) (k : Nat) (h : k < s.size) (h2 : k < s.data.toList.length) : s[k] = s.data.toList[k] := by
  rw [Array.getElem_toList]; rfl
set_option maxRecDepth 20000 in
set_option maxHeartbeats 400000 in
theorem rEntry_any (s : ByteArray) (w : World) : Calls Try.prog 70 #[.string s] w fun e w' => e = .returned (.bool (isE s)) ∧ w' = w := by
  unfold isE
  rw [index_neg, index_neg]
  by_cases h1 : (s.size : Int) < 1
  · have e : (decide (1 ≤ (s.size : Int)) && decide ((s.size : Int) ≤ 100) && !(s.toList == [46]) && !(s.toList == [46, 46]) && !s.data.toList.contains 47 && !s.data.toList.contains 0) = false := by rw [decide_eq_false (by omega)]; rfl
    have h1b : decide ((s.size : Int) < 1) = true := decide_eq_true h1
    rw [e]
    go_enter Try.func70, Try.ntmps70
    go_wp2_with fail
    go_ret
    exact ⟨rfl, rfl⟩
  have h1b : decide ((s.size : Int) < 1) = false := decide_eq_false h1
  by_cases h2 : (s.size : Int) > 100
  · have e : (decide (1 ≤ (s.size : Int)) && decide ((s.size : Int) ≤ 100) && !(s.toList == [46]) && !(s.toList == [46, 46]) && !s.data.toList.contains 47 && !s.data.toList.contains 0) = false := by rw [decide_eq_true (by omega), decide_eq_false (by omega)]; rfl
    have h2b : decide ((s.size : Int) > 100) = true := decide_eq_true h2
    rw [e]
    go_enter Try.func70, Try.ntmps70
    go_wp2_with fail
    go_ret
    exact ⟨rfl, rfl⟩
  have h2b : decide ((s.size : Int) > 100) = false := decide_eq_false h2
  by_cases h3 : s.toList = [46]
  · have h3b : (s.toList == [46]) = true := by simpa using h3
    have e : (decide (1 ≤ (s.size : Int)) && decide ((s.size : Int) ≤ 100) && !(s.toList == [46]) && !(s.toList == [46, 46]) && !s.data.toList.contains 47 && !s.data.toList.contains 0) = false := by rw [h3b]; simp
    rw [e]
    clear e
    go_enter Try.func70, Try.ntmps70
    go_wp2_with fail
    go_ret
    exact ⟨rfl, rfl⟩
  have h3b : (s.toList == [46]) = false := by simpa using h3
  by_cases h4 : s.toList = [46, 46]
  · have h4b : (s.toList == [46, 46]) = true := by simpa using h4
    have e : (decide (1 ≤ (s.size : Int)) && decide ((s.size : Int) ≤ 100) && !(s.toList == [46]) && !(s.toList == [46, 46]) && !s.data.toList.contains 47 && !s.data.toList.contains 0) = false := by rw [h4b]; simp
    rw [e]
    clear e
    go_enter Try.func70, Try.ntmps70
    go_wp2_with fail
    go_ret
    exact ⟨rfl, rfl⟩
  have h4b : (s.toList == [46, 46]) = false := by simpa using h4
  have e : (decide (1 ≤ (s.size : Int)) && decide ((s.size : Int) ≤ 100) && !(s.toList == [46]) && !(s.toList == [46, 46]) && !s.data.toList.contains 47 && !s.data.toList.contains 0) = (!s.data.toList.contains 47 && !s.data.toList.contains 0) := by rw [h3b, h4b, decide_eq_true (by omega), decide_eq_true (by omega)]; rfl
  rw [e]
  have hsz : s.data.toList.length = s.size := data_length s
  have hs100 : s.size ≤ 100 := by omega
  clear e h1 h2 h3 h4
  obtain ⟨b, hb⟩ : ∃ x, (!s.data.toList.contains 47 && !s.data.toList.contains 0) = x := ⟨_, rfl⟩
  rw [hb]
  have HBB := Aside0.mk hb
  clear hb
  go_enter Try.func70, Try.ntmps70
  go_wp2_with fail
  clear h3b h4b
  go_loop [3] (fun v => ∃ k : Nat, v = .int .i64 (k : Int) ∧ k ≤ s.size ∧ Aside0 (∀ i (h : i < s.data.toList.length), i < k → s.data.toList[i] ≠ 47 ∧ s.data.toList[i] ≠ 0)) (fun v => s.size - (intOf v).toNat)
  case atStart => exact ⟨0, rfl, Nat.zero_le _, ⟨fun i h hi => absurd hi (Nat.not_lt_zero i)⟩⟩
  case round =>
    obtain ⟨k, rfl, hk, HZ⟩ := hrel
    by_cases hlt : k < s.size
    · have hl2 : k < s.data.toList.length := by omega
      have hbt := ba_get s k hlt hl2
      obtain ⟨u, hu⟩ : ∃ u, s.data.toList[k] = u := ⟨_, rfl⟩
      rw [hu] at hbt
      have HU := Aside0.mk hu
      clear hu
      have hd : decide ((k : Int) < (s.size : Int)) = true := decide_eq_true (by omega)
      by_cases e1 : u = 47
      · have hF : b = false := by
          rw [← HBB.out]
          have : s.data.toList.contains 47 = true := List.contains_iff_mem.2 (by rw [← e1, ← HU.out]; exact List.getElem_mem hl2)
          rw [this]; rfl
        have hb2 : (((s[k].toNat : Nat) : Int) == 47) = true := by rw [hbt, e1]; rfl
        subst hF
        clear hbt
        go_wp2_with fail
        go_ret
        exact ⟨rfl, rfl⟩
      · have e1b : (((s[k].toNat : Nat) : Int) == 47) = false := by
          rw [hbt]
          refine beq_eq_false_iff_ne.2 (fun h => e1 ?_)
          exact UInt8.toNat_inj.1 (by show u.toNat = 47; omega)
        by_cases e2 : u = 0
        · have hF : b = false := by
            rw [← HBB.out]
            have : s.data.toList.contains 0 = true := List.contains_iff_mem.2 (by rw [← e2, ← HU.out]; exact List.getElem_mem hl2)
            rw [this]; simp
          have hb2 : (((s[k].toNat : Nat) : Int) == 0) = true := by rw [hbt, e2]; rfl
          subst hF
          clear hbt
          go_wp2_with fail
          go_ret
          exact ⟨rfl, rfl⟩
        · have e2b : (((s[k].toNat : Nat) : Int) == 0) = false := by
            rw [hbt]
            refine beq_eq_false_iff_ne.2 (fun h => e2 ?_)
            exact UInt8.toNat_inj.1 (by show u.toNat = 0; omega)
          clear hbt
          go_wp2_with fail
          refine ⟨⟨k + 1, by go_num, by omega, ⟨fun i h hi => ?_⟩⟩, by simp [intOf]; omega⟩
          rcases Nat.lt_succ_iff_lt_or_eq.1 hi with h9 | h9
          · exact HZ.out i h h9
          · subst h9; rw [HU.out]; exact ⟨e1, e2⟩
    · have hkk : k = s.size := by omega
      subst hkk
      have hT : b = true := by
        rw [← HBB.out]
        have c1 : s.data.toList.contains 47 = false := by
          cases hc : s.data.toList.contains 47 with
          | false => rfl
          | true =>
            obtain ⟨i, hi, he⟩ := List.getElem_of_mem (List.contains_iff_mem.1 hc)
            exact absurd he (HZ.out i hi (by omega)).1
        have c2 : s.data.toList.contains 0 = false := by
          cases hc : s.data.toList.contains 0 with
          | false => rfl
          | true =>
            obtain ⟨i, hi, he⟩ := List.getElem_of_mem (List.contains_iff_mem.1 hc)
            exact absurd he (HZ.out i hi (by omega)).2
        rw [c1, c2]; rfl
      subst hT
      go_wp2_with fail
      go_ret
      exact ⟨rfl, rfl⟩
end Go.Proofs.Ythhajkmeadapgaa.Tree
