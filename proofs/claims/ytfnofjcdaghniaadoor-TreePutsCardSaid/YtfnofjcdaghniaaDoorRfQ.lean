/- the reference's IsEntry. Own work. -/
import Derived.Test.YtfnofjcdaghniaaDoorTrJ
import Derived.Lib.IndexAny
import Derived.Laws.Cover1
import Derived.BigQuiet
namespace Go.Proofs.YtfnofjcdaghniaaDoor.Tree
set_option linter.unusedVariables false
set_option linter.unusedSimpArgs false
open Go.RowKit Go.Proofs.YtfnofjcdaghniaaDoor.PL Go.Proofs.YtfnofjcdaghniaaDoor.Mt Go.Proofs.YtfnofjcdaghniaaDoorW.PrintWords Go.Proofs.YtfnofjcdaghniaaDoorW.PrintLast Go.Proofs.YtfnofjcdaghniaaDoorW.PrintMore
theorem index_neg (l : List UInt8) (c : UInt8) : decide (Lib.indexByte l c < 0) = !l.contains c := by
  rw [Lib.contains_iff_indexByte]
  by_cases h : Lib.indexByte l c < 0
  · rw [decide_eq_true h, decide_eq_false (by omega)]; rfl
  · rw [decide_eq_false h, decide_eq_true (by omega)]; rfl
theorem ba_get (s : ByteArray) (k : Nat) (h : k < s.size) (h2 : k < s.data.toList.length) : s[k] = s.data.toList[k] := by
  rw [Array.getElem_toList]; rfl
set_option maxRecDepth 20000 in
set_option maxHeartbeats 400000 in
theorem rEntry_any (s : ByteArray) (w : World) : Calls Tryd.prog 41 #[.string s] w fun e w' => e = .returned (.bool (isE s)) ∧ w' = w := by
  unfold isE
  rw [index_neg, index_neg]
  by_cases h1 : (s.size : Int) < 1
  · have e : (decide (1 ≤ (s.size : Int)) && decide ((s.size : Int) ≤ 100) && !(s.toList == [46]) && !(s.toList == [46, 46]) && !s.data.toList.contains 47 && !s.data.toList.contains 0) = false := by rw [decide_eq_false (by omega)]; rfl
    have h1b : decide ((s.size : Int) < 1) = true := decide_eq_true h1
    rw [e]
    go_enter Tryd.func41, Tryd.ntmps41
    go_wp2_with fail
    go_ret
    exact ⟨rfl, rfl⟩
  have h1b : decide ((s.size : Int) < 1) = false := decide_eq_false h1
  by_cases h2 : (s.size : Int) > 100
  · have e : (decide (1 ≤ (s.size : Int)) && decide ((s.size : Int) ≤ 100) && !(s.toList == [46]) && !(s.toList == [46, 46]) && !s.data.toList.contains 47 && !s.data.toList.contains 0) = false := by rw [decide_eq_true (by omega), decide_eq_false (by omega)]; rfl
    have h2b : decide ((s.size : Int) > 100) = true := decide_eq_true h2
    rw [e]
    go_enter Tryd.func41, Tryd.ntmps41
    go_wp2_with fail
    go_ret
    exact ⟨rfl, rfl⟩
  have h2b : decide ((s.size : Int) > 100) = false := decide_eq_false h2
  by_cases h3 : s.toList = [46]
  · have h3b : (s.toList == [46]) = true := by simpa using h3
    have e : (decide (1 ≤ (s.size : Int)) && decide ((s.size : Int) ≤ 100) && !(s.toList == [46]) && !(s.toList == [46, 46]) && !s.data.toList.contains 47 && !s.data.toList.contains 0) = false := by rw [h3b]; simp
    rw [e]
    clear e
    go_enter Tryd.func41, Tryd.ntmps41
    go_wp2_with fail
    go_ret
    exact ⟨rfl, rfl⟩
  have h3b : (s.toList == [46]) = false := by simpa using h3
  by_cases h4 : s.toList = [46, 46]
  · have h4b : (s.toList == [46, 46]) = true := by simpa using h4
    have e : (decide (1 ≤ (s.size : Int)) && decide ((s.size : Int) ≤ 100) && !(s.toList == [46]) && !(s.toList == [46, 46]) && !s.data.toList.contains 47 && !s.data.toList.contains 0) = false := by rw [h4b]; simp
    rw [e]
    clear e
    go_enter Tryd.func41, Tryd.ntmps41
    go_wp2_with fail
    go_ret
    exact ⟨rfl, rfl⟩
  have h4b : (s.toList == [46, 46]) = false := by simpa using h4
  have e : (decide (1 ≤ (s.size : Int)) && decide ((s.size : Int) ≤ 100) && !(s.toList == [46]) && !(s.toList == [46, 46]) && !s.data.toList.contains 47 && !s.data.toList.contains 0) = (!s.data.toList.contains 47 && !s.data.toList.contains 0) := by rw [h3b, h4b, decide_eq_true (by omega), decide_eq_true (by omega)]; rfl
  rw [e]
  have hsz : s.data.toList.length = s.size := data_length s
  have hs100 : s.size ≤ 100 := by omega
  clear e h1 h2 h3 h4
  obtain ⟨b, hb⟩ : ∃ x, (!s.data.toList.contains 47 && !s.data.toList.contains 0) = x := ⟨_, rfl⟩
  rw [hb]
  have HBB := Aside0.mk hb
  clear hb
  go_enter Tryd.func41, Tryd.ntmps41
  go_wp2_with fail
  clear h3b h4b
  go_loop [3] (fun v => ∃ k : Nat, v = .int .i64 (k : Int) ∧ k ≤ s.size ∧ Aside0 (∀ i (h : i < s.data.toList.length), i < k → s.data.toList[i] ≠ 47 ∧ s.data.toList[i] ≠ 0)) (fun v => s.size - (intOf v).toNat)
  case atStart => exact ⟨0, rfl, Nat.zero_le _, ⟨fun i h hi => absurd hi (Nat.not_lt_zero i)⟩⟩
  case round =>
    obtain ⟨k, rfl, hk, HZ⟩ := hrel
    by_cases hlt : k < s.size
    · have hl2 : k < s.data.toList.length := by omega
      have hbt := ba_get s k hlt hl2
      obtain ⟨u, hu⟩ : ∃ u, s.data.toList[k] = u := ⟨_, rfl⟩
      rw [hu] at hbt
      have HU := Aside0.mk hu
      clear hu
      have hd : decide ((k : Int) < (s.size : Int)) = true := decide_eq_true (by omega)
      by_cases e1 : u = 47
      · have hF : b = false := by
          rw [← HBB.out]
          have : s.data.toList.contains 47 = true := List.contains_iff_mem.2 (by rw [← e1, ← HU.out]; exact List.getElem_mem hl2)
          rw [this]; rfl
        have hb2 : (((s[k].toNat : Nat) : Int) == 47) = true := by rw [hbt, e1]; rfl
        subst hF
        clear hbt
        go_wp2_with fail
        go_ret
        exact ⟨rfl, rfl⟩
      · have e1b : (((s[k].toNat : Nat) : Int) == 47) = false := by
          rw [hbt]
          refine beq_eq_false_iff_ne.2 (fun h => e1 ?_)
          exact UInt8.toNat_inj.1 (by show u.toNat = 47; omega)
        by_cases e2 : u = 0
        · have hF : b = false := by
            rw [← HBB.out]
            have : s.data.toList.contains 0 = true := List.contains_iff_mem.2 (by rw [← e2, ← HU.out]; exact List.getElem_mem hl2)
            rw [this]; simp
          have hb2 : (((s[k].toNat : Nat) : Int) == 0) = true := by rw [hbt, e2]; rfl
          subst hF
          clear hbt
          go_wp2_with fail
          go_ret
          exact ⟨rfl, rfl⟩
        · have e2b : (((s[k].toNat : Nat) : Int) == 0) = false := by
            rw [hbt]
            refine beq_eq_false_iff_ne.2 (fun h => e2 ?_)
            exact UInt8.toNat_inj.1 (by show u.toNat = 0; omega)
          clear hbt
          go_wp2_with fail
          refine ⟨⟨k + 1, by go_num, by omega, ⟨fun i h hi => ?_⟩⟩, by simp [intOf]; omega⟩
          rcases Nat.lt_succ_iff_lt_or_eq.1 hi with h9 | h9
          · exact HZ.out i h h9
          · subst h9; rw [HU.out]; exact ⟨e1, e2⟩
    · have hkk : k = s.size := by omega
      subst hkk
      have hT : b = true := by
        rw [← HBB.out]
        have c1 : s.data.toList.contains 47 = false := by
          cases hc : s.data.toList.contains 47 with
          | false => rfl
          | true =>
            obtain ⟨i, hi, he⟩ := List.getElem_of_mem (List.contains_iff_mem.1 hc)
            exact absurd he (HZ.out i hi (by omega)).1
        have c2 : s.data.toList.contains 0 = false := by
          cases hc : s.data.toList.contains 0 with
          | false => rfl
          | true =>
            obtain ⟨i, hi, he⟩ := List.getElem_of_mem (List.contains_iff_mem.1 hc)
            exact absurd he (HZ.out i hi (by omega)).2
        rw [c1, c2]; rfl
      subst hT
      go_wp2_with fail
      go_ret
      exact ⟨rfl, rfl⟩
end Go.Proofs.YtfnofjcdaghniaaDoor.Tree
namespace Go.Proofs.YtfnofjcdaghniaaDoor.Tree
set_option linter.unusedVariables false
set_option linter.unusedSimpArgs false
open Go.RowKit Go.Proofs.YtfnofjcdaghniaaDoor.PL Go.Proofs.YtfnofjcdaghniaaDoor.Mt Go.Proofs.YtfnofjcdaghniaaDoorW.PrintWords Go.Proofs.YtfnofjcdaghniaaDoorW.PrintLast Go.Proofs.YtfnofjcdaghniaaDoorW.PrintMore
set_option maxRecDepth 20000 in
set_option maxHeartbeats 4000000 in
theorem rcheck_form (t : S26) (A2 : Option Addr) (c2 : Nat) (A3 : Option Addr) (c3 : Nat) (A4 : Option Addr) (c4 : Nat) (w : World) (g n deep : Nat) (hblk : w.heap[g]? = some (.cells #[.int .i64 n] 3 (0, 0))) (hn : n < 65536) (hdp : deep ≤ 64) (hf : formE t ≠ 0)
   (hl2 : t.f2.length ≤ 140737488355328) (hl3 : t.f3.length ≤ 140737488355328) (hl4 : t.f4.length ≤ 140737488355328) :
    Calls Tryd.prog 31 #[TV t A2 c2 A3 c3 A4 c4, .int .i64 deep, .pointer (some ⟨g, 0, none⟩)] w fun e w' => e = .returned (.int .i64 (formE t)) ∧ w'.heap[g]? = some (.cells #[.int .i64 (n + 1 : Nat)] 3 (0, 0)) ∧ KeepBut w w' g none ∧ (∀ w0 : World, Below w0.heap.size w0 w → w0.heap.size ≤ g → Below w0.heap.size w0 w') := by
  have hgp : w.heap.size ≠ g := by have := blk_lt hblk; omega
  have hblk1 := blk_alloc hblk (.cells #[.int .i64 t.f0, .bool t.f1, .slice A2 t.f2.length c2, .slice A3 t.f3.length c3, .slice A4 t.f4.length c4] 26)
  have hbox1 : (w.alloc (.cells #[.int .i64 t.f0, .bool t.f1, .slice A2 t.f2.length c2, .slice A3 t.f3.length c3, .slice A4 t.f4.length c4] 26)).heap[w.heap.size]? = some (.cells #[.int .i64 t.f0, .bool t.f1, .slice A2 t.f2.length c2, .slice A3 t.f3.length c3, .slice A4 t.f4.length c4] 26 (0, 0)) := heap_alloc_new w _
  have HG1 := Aside0.mk hblk1
  have HP1 := Aside0.mk hbox1
  have HK1 : Aside0 (KeepBut w (w.alloc (.cells #[.int .i64 t.f0, .bool t.f1, .slice A2 t.f2.length c2, .slice A3 t.f3.length c3, .slice A4 t.f4.length c4] 26)) g none) := ⟨KeepBut.of_below (below_alloc (Below.refl _ w) _) g none⟩
  have HB1 : Aside0 (∀ w0 : World, Below w0.heap.size w0 w → Below w0.heap.size w0 (w.alloc (.cells #[.int .i64 t.f0, .bool t.f1, .slice A2 t.f2.length c2, .slice A3 t.f3.length c3, .slice A4 t.f4.length c4] 26))) := ⟨fun w0 h => below_alloc h _⟩
  have hd1 : ¬ (64 : Int) < (deep : Int) := by omega
  clear hblk hblk1 hbox1
  go_enter Tryd.func31, Tryd.ntmps31
  go_upto_region 1 with fail
  generalize (w.alloc (.cells #[.int .i64 t.f0, .bool t.f1, .slice A2 t.f2.length c2, .slice A3 t.f3.length c3, .slice A4 t.f4.length c4] 26)) = wa at *
  generalize w.heap.size = pp at *
  have cell0 : wa.cell? ⟨g, 0, none⟩ = some (.int .i64 n) := (blk_cell HG1.out 0).trans rfl
  have fr0 : wa.frozen? ⟨g, 0, none⟩ = false := blk_frozen HG1.out 0
  go_upto_region 2 with fail
  obtain ⟨n1, hn1⟩ : ∃ q : Nat, q = n + 1 := ⟨_, rfl⟩
  have hv : (n : Int) + 1 = (n1 : Int) := by omega
  rw [hv]
  have HN1 := Aside0.mk hn1
  have HG2 : Aside0 ((wa.setCell ⟨g, 0, none⟩ (.int .i64 (n1 : Int))).heap[g]? = some (.cells #[.int .i64 (n1 : Int)] 3 (0, 0))) := ⟨by simpa using blk_set HG1.out 0 (.int .i64 (n1 : Int))⟩
  have HG3 : Aside0 ((wa.setCell ⟨g, 0, none⟩ (.int .i64 (n1 : Int))).heap[g]? = some (.cells #[.int .i64 ((n : Int) + 1)] 3 (0, 0))) := ⟨by rw [HG2.out, hn1]; simp⟩
  have HP2 := Aside0.mk (blk_far HP1.out (p := ⟨g, 0, none⟩) hgp (.int .i64 (n1 : Int)))
  have HK2 := Aside0.mk (HK1.out.set_ 0 (.int .i64 (n1 : Int)))
  have HB2 : Aside0 (∀ w0 : World, Below w0.heap.size w0 w → w0.heap.size ≤ g → Below w0.heap.size w0 (wa.setCell ⟨g, 0, none⟩ (.int .i64 (n1 : Int)))) := ⟨fun w0 h hg => below_set (HB1.out w0 h) hg⟩
  generalize (wa.setCell ⟨g, 0, none⟩ (.int .i64 (n1 : Int))) = w2 at *
  clear cell0 fr0 HG1 HP1 HK1 hv HB1
  have hn2 : ¬ (65536 : Int) < (n1 : Int) := by omega
  clear hn1 hn
  have cell0 : w2.cell? ⟨g, 0, none⟩ = some (.int .i64 n1) := (blk_cell HG2.out 0).trans rfl
  obtain ⟨b0, b1, b2, b3, b4⟩ := cells5 HP2.out
  by_cases q1 : 0 < t.f3.length
  · have p1 : (0 : Int) < (t.f3.length : Int) := by omega
    by_cases k1 : t.f0 = 1
    · rw [k1] at b0
      have HE : Aside0 (formE t = 3) := ⟨by unfold formE; rw [if_pos k1, if_pos (.inl q1)]⟩
      clear hf
      go_wp2_with fail
      exact bodyPost_ret (v := .int .i64 3) (by simp [results, Tryd.results31, go_sem]) rfl ⟨by rw [HE.out], HG3.out, HK2.out, HB2.out⟩
    · by_cases k3 : t.f0 = 3
      · rw [k3] at b0
        have HE : Aside0 (formE t = 3) := ⟨by unfold formE; rw [if_neg (by omega), if_pos k3, if_pos (.inr (.inl q1))]⟩
        clear hf
        go_wp2_with fail
        exact bodyPost_ret (v := .int .i64 3) (by simp [results, Tryd.results31, go_sem]) rfl ⟨by rw [HE.out], HG3.out, HK2.out, HB2.out⟩
      · by_cases k2 : t.f0 = 2
        · rw [k2] at b0
          by_cases q0 : t.f1 = true
          · rw [q0] at b1
            have HE : Aside0 (formE t = 3) := ⟨by unfold formE; rw [if_neg (by omega), if_neg (by omega), if_pos k2, if_pos (.inl q0)]⟩
            clear hf
            go_wp2_with fail
            exact bodyPost_ret (v := .int .i64 3) (by simp [results, Tryd.results31, go_sem]) rfl ⟨by rw [HE.out], HG3.out, HK2.out, HB2.out⟩
          · have q0' : t.f1 = false := by simpa using q0
            rw [q0'] at b1
            by_cases q5 : 0 < t.f2.length
            · have p5 : (0 : Int) < (t.f2.length : Int) := by omega
              have HE : Aside0 (formE t = 3) := ⟨by unfold formE; rw [if_neg (by omega), if_neg (by omega), if_pos k2, if_pos (.inr (.inl q5))]⟩
              clear hf
              go_wp2_with fail
              exact bodyPost_ret (v := .int .i64 3) (by simp [results, Tryd.results31, go_sem]) rfl ⟨by rw [HE.out], HG3.out, HK2.out, HB2.out⟩
            · have p5 : ¬ (0 : Int) < (t.f2.length : Int) := by omega
              by_cases q6 : t.f3.length = t.f4.length
              · exact absurd (by unfold formE; rw [if_neg (by omega), if_neg (by omega), if_pos k2, if_neg (by rintro (h | h | h); (· exact q0 h); (· exact q5 h); exact h q6)]) hf
              · have p6 : ((t.f3.length : Int) == (t.f4.length : Int)) = false := by simpa using (show ¬ (t.f3.length : Int) = (t.f4.length : Int) by omega)
                have p7 : ((t.f3.length : Int) != (t.f4.length : Int)) = true := by simp only [bne, p6, Bool.not_false]
                have HE : Aside0 (formE t = 3) := ⟨by unfold formE; rw [if_neg (by omega), if_neg (by omega), if_pos k2, if_pos (.inr (.inr q6))]⟩
                clear hf
                go_wp2_with fail
                exact bodyPost_ret (v := .int .i64 3) (by simp [results, Tryd.results31, go_sem]) rfl ⟨by rw [HE.out], HG3.out, HK2.out, HB2.out⟩
        · have g1 : (t.f0 == 1) = false := by simpa using k1
          have g3 : (t.f0 == 3) = false := by simpa using k3
          have g2 : (t.f0 == 2) = false := by simpa using k2
          have HE : Aside0 (formE t = 3) := ⟨by unfold formE; rw [if_neg k1, if_neg k3, if_neg k2]⟩
          clear hf
          go_wp2_with fail
          exact bodyPost_ret (v := .int .i64 3) (by simp [results, Tryd.results31, go_sem]) rfl ⟨by rw [HE.out], HG3.out, HK2.out, HB2.out⟩
  · have p1 : ¬ (0 : Int) < (t.f3.length : Int) := by omega
    by_cases q2 : 0 < t.f4.length
    · have p2 : (0 : Int) < (t.f4.length : Int) := by omega
      by_cases k1 : t.f0 = 1
      · rw [k1] at b0
        have HE : Aside0 (formE t = 3) := ⟨by unfold formE; rw [if_pos k1, if_pos (.inr q2)]⟩
        clear hf
        go_wp2_with fail
        exact bodyPost_ret (v := .int .i64 3) (by simp [results, Tryd.results31, go_sem]) rfl ⟨by rw [HE.out], HG3.out, HK2.out, HB2.out⟩
      · by_cases k3 : t.f0 = 3
        · rw [k3] at b0
          have HE : Aside0 (formE t = 3) := ⟨by unfold formE; rw [if_neg (by omega), if_pos k3, if_pos (.inr (.inr q2))]⟩
          clear hf
          go_wp2_with fail
          exact bodyPost_ret (v := .int .i64 3) (by simp [results, Tryd.results31, go_sem]) rfl ⟨by rw [HE.out], HG3.out, HK2.out, HB2.out⟩
        · by_cases k2 : t.f0 = 2
          · rw [k2] at b0
            by_cases q0 : t.f1 = true
            · rw [q0] at b1
              have HE : Aside0 (formE t = 3) := ⟨by unfold formE; rw [if_neg (by omega), if_neg (by omega), if_pos k2, if_pos (.inl q0)]⟩
              clear hf
              go_wp2_with fail
              exact bodyPost_ret (v := .int .i64 3) (by simp [results, Tryd.results31, go_sem]) rfl ⟨by rw [HE.out], HG3.out, HK2.out, HB2.out⟩
            · have q0' : t.f1 = false := by simpa using q0
              rw [q0'] at b1
              by_cases q5 : 0 < t.f2.length
              · have p5 : (0 : Int) < (t.f2.length : Int) := by omega
                have HE : Aside0 (formE t = 3) := ⟨by unfold formE; rw [if_neg (by omega), if_neg (by omega), if_pos k2, if_pos (.inr (.inl q5))]⟩
                clear hf
                go_wp2_with fail
                exact bodyPost_ret (v := .int .i64 3) (by simp [results, Tryd.results31, go_sem]) rfl ⟨by rw [HE.out], HG3.out, HK2.out, HB2.out⟩
              · have p5 : ¬ (0 : Int) < (t.f2.length : Int) := by omega
                by_cases q6 : t.f3.length = t.f4.length
                · exact absurd (by unfold formE; rw [if_neg (by omega), if_neg (by omega), if_pos k2, if_neg (by rintro (h | h | h); (· exact q0 h); (· exact q5 h); exact h q6)]) hf
                · have p6 : ((t.f3.length : Int) == (t.f4.length : Int)) = false := by simpa using (show ¬ (t.f3.length : Int) = (t.f4.length : Int) by omega)
                  have p7 : ((t.f3.length : Int) != (t.f4.length : Int)) = true := by simp only [bne, p6, Bool.not_false]
                  have HE : Aside0 (formE t = 3) := ⟨by unfold formE; rw [if_neg (by omega), if_neg (by omega), if_pos k2, if_pos (.inr (.inr q6))]⟩
                  clear hf
                  go_wp2_with fail
                  exact bodyPost_ret (v := .int .i64 3) (by simp [results, Tryd.results31, go_sem]) rfl ⟨by rw [HE.out], HG3.out, HK2.out, HB2.out⟩
          · have g1 : (t.f0 == 1) = false := by simpa using k1
            have g3 : (t.f0 == 3) = false := by simpa using k3
            have g2 : (t.f0 == 2) = false := by simpa using k2
            have HE : Aside0 (formE t = 3) := ⟨by unfold formE; rw [if_neg k1, if_neg k3, if_neg k2]⟩
            clear hf
            go_wp2_with fail
            exact bodyPost_ret (v := .int .i64 3) (by simp [results, Tryd.results31, go_sem]) rfl ⟨by rw [HE.out], HG3.out, HK2.out, HB2.out⟩
    · have p2 : ¬ (0 : Int) < (t.f4.length : Int) := by omega
      by_cases k1 : t.f0 = 1
      · rw [k1] at b0
        by_cases q3 : 1048576 < t.f2.length
        · have p3 : (1048576 : Int) < (t.f2.length : Int) := by omega
          have HE : Aside0 (formE t = 5) := ⟨by unfold formE; rw [if_pos k1, if_neg (by omega), if_pos q3]⟩
          clear hf
          go_wp2_with fail
          exact bodyPost_ret (v := .int .i64 5) (by simp [results, Tryd.results31, go_sem]) rfl ⟨by rw [HE.out], HG3.out, HK2.out, HB2.out⟩
        · exact absurd (by unfold formE; rw [if_pos k1, if_neg (by omega), if_neg q3]) hf
      · by_cases k3 : t.f0 = 3
        · rw [k3] at b0
          by_cases q0 : t.f1 = true
          · rw [q0] at b1
            have HE : Aside0 (formE t = 3) := ⟨by unfold formE; rw [if_neg (by omega), if_pos k3, if_pos (.inl q0)]⟩
            clear hf
            go_wp2_with fail
            exact bodyPost_ret (v := .int .i64 3) (by simp [results, Tryd.results31, go_sem]) rfl ⟨by rw [HE.out], HG3.out, HK2.out, HB2.out⟩
          · have q0' : t.f1 = false := by simpa using q0
            rw [q0'] at b1
            have hno : ¬ (t.f1 = true ∨ 0 < t.f3.length ∨ 0 < t.f4.length) := by rintro (h | h | h); (· exact q0 h); (· exact q1 h); exact q2 h
            by_cases q3 : 1000 < t.f2.length
            · have p3 : (1000 : Int) < (t.f2.length : Int) := by omega
              have HE : Aside0 (formE t = 5) := ⟨by unfold formE; rw [if_neg (by omega), if_pos k3, if_neg hno, if_pos q3]⟩
              clear hf
              go_wp2_with fail
              exact bodyPost_ret (v := .int .i64 5) (by simp [results, Tryd.results31, go_sem]) rfl ⟨by rw [HE.out], HG3.out, HK2.out, HB2.out⟩
            · have p3 : ¬ (1000 : Int) < (t.f2.length : Int) := by omega
              by_cases q4 : t.f2.length = 0
              · have p4 : ((t.f2.length : Int) == 0) = true := by simp [q4]
                have HE : Aside0 (formE t = 3) := ⟨by unfold formE; rw [if_neg (by omega), if_pos k3, if_neg hno, if_neg q3, if_pos q4]⟩
                clear hf
                go_wp2_with fail
                exact bodyPost_ret (v := .int .i64 3) (by simp [results, Tryd.results31, go_sem]) rfl ⟨by rw [HE.out], HG3.out, HK2.out, HB2.out⟩
              · exact absurd (by unfold formE; rw [if_neg (by omega), if_pos k3, if_neg hno, if_neg q3, if_neg q4]) hf
        · by_cases k2 : t.f0 = 2
          · rw [k2] at b0
            by_cases q0 : t.f1 = true
            · rw [q0] at b1
              have HE : Aside0 (formE t = 3) := ⟨by unfold formE; rw [if_neg (by omega), if_neg (by omega), if_pos k2, if_pos (.inl q0)]⟩
              clear hf
              go_wp2_with fail
              exact bodyPost_ret (v := .int .i64 3) (by simp [results, Tryd.results31, go_sem]) rfl ⟨by rw [HE.out], HG3.out, HK2.out, HB2.out⟩
            · have q0' : t.f1 = false := by simpa using q0
              rw [q0'] at b1
              by_cases q5 : 0 < t.f2.length
              · have p5 : (0 : Int) < (t.f2.length : Int) := by omega
                have HE : Aside0 (formE t = 3) := ⟨by unfold formE; rw [if_neg (by omega), if_neg (by omega), if_pos k2, if_pos (.inr (.inl q5))]⟩
                clear hf
                go_wp2_with fail
                exact bodyPost_ret (v := .int .i64 3) (by simp [results, Tryd.results31, go_sem]) rfl ⟨by rw [HE.out], HG3.out, HK2.out, HB2.out⟩
              · have p5 : ¬ (0 : Int) < (t.f2.length : Int) := by omega
                by_cases q6 : t.f3.length = t.f4.length
                · exact absurd (by unfold formE; rw [if_neg (by omega), if_neg (by omega), if_pos k2, if_neg (by rintro (h | h | h); (· exact q0 h); (· exact q5 h); exact h q6)]) hf
                · exact absurd (by omega) q6
          · have g1 : (t.f0 == 1) = false := by simpa using k1
            have g3 : (t.f0 == 3) = false := by simpa using k3
            have g2 : (t.f0 == 2) = false := by simpa using k2
            have HE : Aside0 (formE t = 3) := ⟨by unfold formE; rw [if_neg k1, if_neg k3, if_neg k2]⟩
            clear hf
            go_wp2_with fail
            exact bodyPost_ret (v := .int .i64 3) (by simp [results, Tryd.results31, go_sem]) rfl ⟨by rw [HE.out], HG3.out, HK2.out, HB2.out⟩
set_option maxRecDepth 20000 in
set_option maxHeartbeats 1000000 in
theorem rcheck_long (t : S26) (A2 : Option Addr) (c2 : Nat) (A3 : Option Addr) (c3 : Nat) (A4 : Option Addr) (c4 : Nat) (w : World) (g n deep : Nat) (hblk : w.heap[g]? = some (.cells #[.int .i64 n] 3 (0, 0))) (hn : n ≤ 65536) (hdp : deep ≤ 65) (hf : 65536 < n + 1 ∨ 64 < deep)
   (hl2 : t.f2.length ≤ 140737488355328) (hl3 : t.f3.length ≤ 140737488355328) (hl4 : t.f4.length ≤ 140737488355328) :
    Calls Tryd.prog 31 #[TV t A2 c2 A3 c3 A4 c4, .int .i64 deep, .pointer (some ⟨g, 0, none⟩)] w fun e w' => e = .returned (.int .i64 5) ∧ w'.heap[g]? = some (.cells #[.int .i64 (n + 1 : Nat)] 3 (0, 0)) ∧ KeepBut w w' g none ∧ (∀ w0 : World, Below w0.heap.size w0 w → w0.heap.size ≤ g → Below w0.heap.size w0 w') := by
  have hgp : w.heap.size ≠ g := by have := blk_lt hblk; omega
  have hblk1 := blk_alloc hblk (.cells #[.int .i64 t.f0, .bool t.f1, .slice A2 t.f2.length c2, .slice A3 t.f3.length c3, .slice A4 t.f4.length c4] 26)
  have hbox1 : (w.alloc (.cells #[.int .i64 t.f0, .bool t.f1, .slice A2 t.f2.length c2, .slice A3 t.f3.length c3, .slice A4 t.f4.length c4] 26)).heap[w.heap.size]? = some (.cells #[.int .i64 t.f0, .bool t.f1, .slice A2 t.f2.length c2, .slice A3 t.f3.length c3, .slice A4 t.f4.length c4] 26 (0, 0)) := heap_alloc_new w _
  have HG1 := Aside0.mk hblk1
  have HP1 := Aside0.mk hbox1
  have HK1 : Aside0 (KeepBut w (w.alloc (.cells #[.int .i64 t.f0, .bool t.f1, .slice A2 t.f2.length c2, .slice A3 t.f3.length c3, .slice A4 t.f4.length c4] 26)) g none) := ⟨KeepBut.of_below (below_alloc (Below.refl _ w) _) g none⟩
  have HB1 : Aside0 (∀ w0 : World, Below w0.heap.size w0 w → Below w0.heap.size w0 (w.alloc (.cells #[.int .i64 t.f0, .bool t.f1, .slice A2 t.f2.length c2, .slice A3 t.f3.length c3, .slice A4 t.f4.length c4] 26))) := ⟨fun w0 h => below_alloc h _⟩
  clear hblk hblk1 hbox1
  go_enter Tryd.func31, Tryd.ntmps31
  go_upto_region 1 with fail
  generalize (w.alloc (.cells #[.int .i64 t.f0, .bool t.f1, .slice A2 t.f2.length c2, .slice A3 t.f3.length c3, .slice A4 t.f4.length c4] 26)) = wa at *
  generalize w.heap.size = pp at *
  have cell0 : wa.cell? ⟨g, 0, none⟩ = some (.int .i64 n) := (blk_cell HG1.out 0).trans rfl
  have fr0 : wa.frozen? ⟨g, 0, none⟩ = false := blk_frozen HG1.out 0
  go_upto_region 2 with fail
  obtain ⟨n1, hn1⟩ : ∃ q : Nat, q = n + 1 := ⟨_, rfl⟩
  have hv : (n : Int) + 1 = (n1 : Int) := by omega
  rw [hv]
  have HN1 := Aside0.mk hn1
  have HG2 : Aside0 ((wa.setCell ⟨g, 0, none⟩ (.int .i64 (n1 : Int))).heap[g]? = some (.cells #[.int .i64 (n1 : Int)] 3 (0, 0))) := ⟨by simpa using blk_set HG1.out 0 (.int .i64 (n1 : Int))⟩
  have HG3 : Aside0 ((wa.setCell ⟨g, 0, none⟩ (.int .i64 (n1 : Int))).heap[g]? = some (.cells #[.int .i64 ((n : Int) + 1)] 3 (0, 0))) := ⟨by rw [HG2.out, hn1]; simp⟩
  have HP2 := Aside0.mk (blk_far HP1.out (p := ⟨g, 0, none⟩) hgp (.int .i64 (n1 : Int)))
  have HK2 := Aside0.mk (HK1.out.set_ 0 (.int .i64 (n1 : Int)))
  have HB2 : Aside0 (∀ w0 : World, Below w0.heap.size w0 w → w0.heap.size ≤ g → Below w0.heap.size w0 (wa.setCell ⟨g, 0, none⟩ (.int .i64 (n1 : Int)))) := ⟨fun w0 h hg => below_set (HB1.out w0 h) hg⟩
  generalize (wa.setCell ⟨g, 0, none⟩ (.int .i64 (n1 : Int))) = w2 at *
  clear cell0 fr0 HG1 HP1 HK1 hv HB1
  have cell0 : w2.cell? ⟨g, 0, none⟩ = some (.int .i64 n1) := (blk_cell HG2.out 0).trans rfl
  obtain ⟨b0, b1, b2, b3, b4⟩ := cells5 HP2.out
  by_cases hq : 65536 < n1
  · have hq' : (65536 : Int) < (n1 : Int) := by omega
    clear hf hn1 hn
    go_wp2_with fail
    exact bodyPost_ret (v := .int .i64 5) (by simp [results, Tryd.results31, go_sem]) rfl ⟨rfl, HG3.out, HK2.out, HB2.out⟩
  · have hq' : ¬ (65536 : Int) < (n1 : Int) := by omega
    have hq2 : 64 < deep := by omega
    have hq3 : (64 : Int) < (deep : Int) := by omega
    clear hf hn1 hn
    go_wp2_with fail
    exact bodyPost_ret (v := .int .i64 5) (by simp [results, Tryd.results31, go_sem]) rfl ⟨rfl, HG3.out, HK2.out, HB2.out⟩
end Go.Proofs.YtfnofjcdaghniaaDoor.Tree
namespace Go.Proofs.YtfnofjcdaghniaaDoor.Tree
set_option linter.unusedVariables false
set_option linter.unusedSimpArgs false
open Go.RowKit Go.Proofs.YtfnofjcdaghniaaDoor.PL Go.Proofs.YtfnofjcdaghniaaDoor.Mt Go.Proofs.YtfnofjcdaghniaaDoorW.PrintWords Go.Proofs.YtfnofjcdaghniaaDoorW.PrintLast Go.Proofs.YtfnofjcdaghniaaDoorW.PrintMore
theorem quiet_more {P : Program} {f : FuncId} {args : Array Value} {w : World} {a n : Nat} {v : Value} (h : Calls P f args (w.drewN (a + n)) fun e w' => e = .returned v ∧ w' = w.drewN (a + n)) :
    Calls P f args (w.drewN (a + n)) fun e w'' => e = .returned v ∧ ∃ m, w'' = w.drewN (a + m) := h.mono fun _ _ ⟨he, hm⟩ => ⟨he, n, hm⟩
theorem cell_drew {w : World} {a : Addr} {v : Value} (h : w.cell? a = some v) : w.drew.cell? a = some v := h
theorem chk_leaf {N : Nat} {t : S26} {deep n : Nat} (h : ¬ (65536 < n + 1 ∨ 64 < deep)) (hf : formE t = 0) (h3 : t.f3.length = 0) (h4 : t.f4.length = 0) : chk (N + 1) t deep n = (0, n + 1) := by
  rw [chk, if_neg h, if_neg (fun hh => hh hf), if_neg (fun hh => hh (fun i hi => absurd hi (by omega))), List.length_eq_zero_iff.1 h4, kidsC]
/-- check's contract for trees of at most so many floors -/
def RCK (w0 : World) (N : Nat) : Prop := ∀ (t : S26) (A2 : Option Addr) (c2 : Nat) (A3 : Option Addr) (c3 : Nat) (A4 : Option Addr) (c4 : Nat) (w : World) (g n deep : Nat), TR w0 t A2 c2 A3 c3 A4 c4 → GT N t → Below w0.heap.size w0 w → w0.heap.size ≤ g → w.heap[g]? = some (.cells #[.int .i64 n] 3 (0, 0)) → n ≤ 65536 → deep ≤ 65 →
    Calls Tryd.prog 31 #[TV t A2 c2 A3 c3 A4 c4, .int .i64 deep, .pointer (some ⟨g, 0, none⟩)] w fun e w' => e = .returned (.int .i64 (chk N t deep n).1) ∧ w'.heap[g]? = some (.cells #[.int .i64 ((chk N t deep n).2 : Int)] 3 (0, 0)) ∧ KeepBut w w' g none ∧ Below w0.heap.size w0 w'
set_option maxRecDepth 20000 in
set_option maxHeartbeats 2000000 in
theorem rcheck_step (w0 : World) (N : Nat) (ih : RCK w0 N) (t : S26) (A2 : Option Addr) (c2 : Nat) (A3 : Option Addr) (c3 : Nat) (A4 : Option Addr) (c4 : Nat) (w : World) (g n deep : Nat) (h : TR w0 t A2 c2 A3 c3 A4 c4) (hG : GT (N + 1) t) (hB : Below w0.heap.size w0 w) (hg : w0.heap.size ≤ g) (hblk : w.heap[g]? = some (.cells #[.int .i64 n] 3 (0, 0))) (hn : n < 65536) (hdp : deep ≤ 64) (hf : formE t = 0) :
    Calls Tryd.prog 31 #[TV t A2 c2 A3 c3 A4 c4, .int .i64 deep, .pointer (some ⟨g, 0, none⟩)] w fun e w' => e = .returned (.int .i64 (chk (N + 1) t deep n).1) ∧ w'.heap[g]? = some (.cells #[.int .i64 ((chk (N + 1) t deep n).2 : Int)] 3 (0, 0)) ∧ KeepBut w w' g none ∧ Below w0.heap.size w0 w' := by
    have IH := Aside0.mk ih
    clear ih
    obtain ⟨hd1, hd2, hn1, hn2, hk1, hk2⟩ := h
    obtain ⟨hG0, ⟨hG1, hG2, _⟩, ⟨hG3, hG4, hG5⟩, hG6, hG7, hG8⟩ := hG
    have HNM := Aside0.mk hn2
    have HKK := Aside0.mk hk2
    have HG5 := Aside0.mk hG5
    have HG8 := Aside0.mk hG8
    have HB := Aside0.mk hB
    have hgp : w.heap.size ≠ g := by have := blk_lt hblk; omega
    have HG1 := Aside0.mk (blk_alloc hblk (.cells #[.int .i64 t.f0, .bool t.f1, .slice A2 t.f2.length c2, .slice A3 t.f3.length c3, .slice A4 t.f4.length c4] 26))
    have HP1 := Aside0.mk (heap_alloc_new w (.cells #[.int .i64 t.f0, .bool t.f1, .slice A2 t.f2.length c2, .slice A3 t.f3.length c3, .slice A4 t.f4.length c4] 26))
    have HK1 : Aside0 (KeepBut w (w.alloc (.cells #[.int .i64 t.f0, .bool t.f1, .slice A2 t.f2.length c2, .slice A3 t.f3.length c3, .slice A4 t.f4.length c4] 26)) g none) := ⟨KeepBut.of_below (below_alloc (Below.refl _ w) _) g none⟩
    have HB1 := Aside0.mk (below_alloc HB.out (.cells #[.int .i64 t.f0, .bool t.f1, .slice A2 t.f2.length c2, .slice A3 t.f3.length c3, .slice A4 t.f4.length c4] 26))
    have hd1 : ¬ (64 : Int) < (deep : Int) := by omega
    have HF := Aside0.mk hf
    clear hblk hn2 hk2 hd2 hG5 hG8 hB hf
    go_enter Tryd.func31, Tryd.ntmps31
    go_upto_region 1 with fail
    generalize (w.alloc (.cells #[.int .i64 t.f0, .bool t.f1, .slice A2 t.f2.length c2, .slice A3 t.f3.length c3, .slice A4 t.f4.length c4] 26)) = wa at *
    generalize w.heap.size = pp at *
    have cell0 : wa.cell? ⟨g, 0, none⟩ = some (.int .i64 n) := (blk_cell HG1.out 0).trans rfl
    have fr0 : wa.frozen? ⟨g, 0, none⟩ = false := blk_frozen HG1.out 0
    go_upto_region 2 with fail
    obtain ⟨n1, hn1⟩ : ∃ q : Nat, q = n + 1 := ⟨_, rfl⟩
    have hv : (n : Int) + 1 = (n1 : Int) := by omega
    rw [hv]
    have HN1 := Aside0.mk hn1
    have HG2 : Aside0 ((wa.setCell ⟨g, 0, none⟩ (.int .i64 (n1 : Int))).heap[g]? = some (.cells #[.int .i64 (n1 : Int)] 3 (0, 0))) := ⟨by simpa using blk_set HG1.out 0 (.int .i64 (n1 : Int))⟩
    have HP2 := Aside0.mk (blk_far HP1.out (p := ⟨g, 0, none⟩) hgp (.int .i64 (n1 : Int)))
    have HK2 := Aside0.mk (HK1.out.set_ 0 (.int .i64 (n1 : Int)))
    have HB2 : Aside0 (Below w0.heap.size w0 (wa.setCell ⟨g, 0, none⟩ (.int .i64 (n1 : Int)))) := ⟨below_set HB1.out hg⟩
    generalize (wa.setCell ⟨g, 0, none⟩ (.int .i64 (n1 : Int))) = w2 at *
    clear cell0 fr0 HG1 HP1 HK1 hv HB1
    have hn2 : ¬ (65536 : Int) < (n1 : Int) := by omega
    clear hn1 hn
    have cell0 : w2.cell? ⟨g, 0, none⟩ = some (.int .i64 n1) := (blk_cell HG2.out 0).trans rfl
    obtain ⟨b0, b1, b2, b3, b4⟩ := cells5 HP2.out
    have hw : (t.f0 = 1 ∧ ¬ (0 : Int) < t.f3.length ∧ ¬ (0 : Int) < t.f4.length ∧ ¬ (1048576 : Int) < t.f2.length) ∨
        (t.f0 = 3 ∧ t.f1 = false ∧ ¬ (0 : Int) < t.f3.length ∧ ¬ (0 : Int) < t.f4.length ∧ ¬ (1000 : Int) < t.f2.length ∧ ((t.f2.length : Int) == 0) = false) ∨
        (t.f0 = 2 ∧ t.f1 = false ∧ ¬ (0 : Int) < t.f2.length ∧ ((t.f3.length : Int) != (t.f4.length : Int)) = false) := by
      have hf := HF.out
      unfold formE at hf
      by_cases k1 : t.f0 = 1
      · rw [if_pos k1] at hf
        refine .inl ⟨k1, ?_⟩
        split at hf
        · cases hf
        · split at hf
          · cases hf
          · omega
      · rw [if_neg k1] at hf
        by_cases k3 : t.f0 = 3
        · rw [if_pos k3] at hf
          refine .inr (.inl ⟨k3, ?_⟩)
          split at hf
          · cases hf
          · rename_i q
            split at hf
            · cases hf
            · split at hf
              · cases hf
              · rename_i q2 q3
                refine ⟨by cases hq : t.f1 with | false => rfl | true => exact absurd (.inl hq) q, by omega, by omega, by omega, by simpa using q3⟩
        · rw [if_neg k3] at hf
          by_cases k2 : t.f0 = 2
          · rw [if_pos k2] at hf
            refine .inr (.inr ⟨k2, ?_⟩)
            split at hf
            · cases hf
            · rename_i q
              refine ⟨by cases hq : t.f1 with | false => rfl | true => exact absurd (.inl hq) q, by omega, ?_⟩
              have : t.f3.length = t.f4.length := by omega
              rw [this]; simp
          · rw [if_neg k2] at hf; cases hf
    rcases hw with ⟨k1, q1, q2, q3⟩ | ⟨k3, q0, q1, q2, q3, q4⟩ | ⟨k2, q0, q1, q2⟩
    case inl =>
      rw [k1] at b0
      have p1 : ¬ 0 < t.f3.length := by omega
      have p2 : ¬ 0 < t.f4.length := by omega
      have p3 : ¬ 1048576 < t.f2.length := by omega
      have HC0 : Aside0 (chk (N + 1) t deep n = (0, n + 1)) := ⟨chk_leaf (by have := HN1.out; omega) HF.out (by omega) (by omega)⟩
      go_wp2_with fail
      exact bodyPost_ret (v := .int .i64 0) (by simp [results, Tryd.results31, go_sem]) rfl ⟨by rw [HC0.out], by rw [HC0.out]; show _ = some (Obj.cells #[.int .i64 ((n + 1 : Nat) : Int)] 3 (0, 0)); rw [← HN1.out]; exact HG2.out, HK2.out, HB2.out⟩
    case inr.inl =>
      rw [k3] at b0
      rw [q0] at b1
      have p1 : ¬ 0 < t.f3.length := by omega
      have p2 : ¬ 0 < t.f4.length := by omega
      have p3 : ¬ 1000 < t.f2.length := by omega
      have HC0 : Aside0 (chk (N + 1) t deep n = (0, n + 1)) := ⟨chk_leaf (by have := HN1.out; omega) HF.out (by omega) (by omega)⟩
      go_wp2_with fail
      exact bodyPost_ret (v := .int .i64 0) (by simp [results, Tryd.results31, go_sem]) rfl ⟨by rw [HC0.out], by rw [HC0.out]; show _ = some (Obj.cells #[.int .i64 ((n + 1 : Nat) : Int)] 3 (0, 0)); rw [← HN1.out]; exact HG2.out, HK2.out, HB2.out⟩
    case inr.inr =>
      rw [k2] at b0
      rw [q0] at b1
      have p1 : ¬ 0 < t.f2.length := by omega
      have heq : t.f3.length = t.f4.length := Int.ofNat.inj (show (t.f3.length : Int) = (t.f4.length : Int) by simpa using q2)
      by_cases h9 : 0 < t.f3.length
      case neg =>
        have HC0 : Aside0 (chk (N + 1) t deep n = (0, n + 1)) := ⟨chk_leaf (by have := HN1.out; omega) HF.out (by omega) (by omega)⟩
        have h8 : ¬ 0 < t.f4.length := by omega
        have l3 : ¬ (0 : Int) < (t.f3.length : Int) := by omega
        have l4 : ¬ (0 : Int) < (t.f4.length : Int) := by omega
        go_wp2_with fail
        clear cell0 b0 b1 b2 b3 b4
        go_loopw [8] (fun v wr => v = .int .i64 0 ∧ Aside0 (wr.heap[g]? = some (.cells #[.int .i64 (n1 : Int)] 3 (0, 0))) ∧ Aside0 (wr.heap[pp]? = some (.cells #[.int .i64 t.f0, .bool t.f1, .slice A2 t.f2.length c2, .slice A3 t.f3.length c3, .slice A4 t.f4.length c4] 26 (0, 0))) ∧ Aside0 (Below w0.heap.size w0 wr) ∧ Aside0 (KeepBut w wr g none)) (fun v _ => 0)
        case atStart => exact ⟨rfl, HG2, HP2, HB2, HK2⟩
        case round =>
          obtain ⟨rfl, HG, HP, HBk, HKk⟩ := hrel
          obtain ⟨b0, b1, b2, b3, b4⟩ := cells5 HP.out
          clear b0 b1 b2
          go_wp2_with fail
          clear b3 b4
          go_loopw [9] (fun v wr => v = .int .i64 0 ∧ Aside0 (wr.heap[g]? = some (.cells #[.int .i64 (n1 : Int)] 3 (0, 0))) ∧ Aside0 (wr.heap[pp]? = some (.cells #[.int .i64 t.f0, .bool t.f1, .slice A2 t.f2.length c2, .slice A3 t.f3.length c3, .slice A4 t.f4.length c4] 26 (0, 0))) ∧ Aside0 (Below w0.heap.size w0 wr) ∧ Aside0 (KeepBut w wr g none)) (fun v _ => 0)
          case atStart => exact ⟨rfl, HG, HP, HBk, HKk⟩
          case round =>
            clear HG HP HBk HKk
            obtain ⟨rfl, HG, HP, HBk, HKk⟩ := hrel
            obtain ⟨b0, b1, b2, b3, b4⟩ := cells5 HP.out
            clear b0 b1 b2 b3
            go_wp2_with fail
            exact bodyPost_ret (v := .int .i64 0) (by simp [results, Tryd.results31, go_sem]) rfl ⟨by rw [HC0.out], by rw [HC0.out]; show _ = some (Obj.cells #[.int .i64 ((n + 1 : Nat) : Int)] 3 (0, 0)); rw [← HN1.out]; exact HG.out, HKk.out, HBk.out⟩
      case pos =>
        clear heq
        go_wp2_with fail
        clear b0 b1 b2 b3 b4 cell0
        go_loopw [8] (fun v wr => ∃ (k : Nat), v = .int .i64 (k : Int) ∧ k ≤ t.f3.length ∧ Aside0 (∀ i, i < k → nOK t.f3 i = true) ∧ Aside0 (wr.heap[g]? = some (.cells #[.int .i64 (n1 : Int)] 3 (0, 0))) ∧ Aside0 (wr.heap[pp]? = some (.cells #[.int .i64 t.f0, .bool t.f1, .slice A2 t.f2.length c2, .slice A3 t.f3.length c3, .slice A4 t.f4.length c4] 26 (0, 0))) ∧ Aside0 (Below w0.heap.size w0 wr) ∧ Aside0 (KeepBut w wr g none)) (fun v _ => t.f3.length - (intOf v).toNat)
        case atStart => exact ⟨0, rfl, Nat.zero_le _, ⟨fun i hi => absurd hi (Nat.not_lt_zero i)⟩, HG2, HP2, HB2, HK2⟩
        case round =>
          obtain ⟨k, rfl, hk, HOK, HG, HP, HBk, HKk⟩ := hrel
          by_cases hlt : k < t.f3.length
          · obtain ⟨ad, hA, hcs⟩ := Kd.at_string (Kd.C_below HNM.out HBk.out) (k : Int) (by omega) (by omega)
            obtain ⟨s, hs⟩ : ∃ x, rdOf ByteArray.empty t.f3 (k : Int) = x := ⟨_, rfl⟩
            rw [hs, Int.toNat_natCast] at hcs
            have HS := Aside0.mk hs
            clear hs
            obtain ⟨b0, b1, b2, b3, b4⟩ := cells5 HP.out
            clear b0 b1 b2 b4
            subst hA
            by_cases he : isE s = true
            · have he9 := he
              by_cases hk0 : k = 0
              · subst hk0
                have hcs0 : wr.cell? ad = some (.string s) := hcs
                have hkd : decide ((0 : Int) > 0) = false := rfl
                have hOK0 : nOK t.f3 0 = true := by unfold nOK; rw [HS.out, he]; rfl
                have HOK0 := Aside0.mk hOK0
                clear hOK0
                go_upto_region 27 with fail
                have HRQ := Aside0.mk (fun W => (show Calls Tryd.prog 41 #[.string s] W fun e w' => e = .returned (.bool (isE s)) ∧ w' = W from rEntry_any s W))
                rw [he9] at HRQ
                go_quiet ((go_at_call 41; with_reducible exact Calls.quiet_of_same (HRQ.out _)))
                have HBk := Aside0.mk (pw_below_drewN HBk.out nq)
                go_wp2_with fail
                exact ⟨⟨1, by go_num, by omega, ⟨fun i hi => (Nat.lt_one_iff.1 hi) ▸ HOK0.out⟩, HG, HP, HBk, HKk⟩, by simp [intOf]; omega⟩
              · obtain ⟨ad2, hA2, hcs2⟩ := Kd.at_string (Kd.C_below HNM.out HBk.out) ((k - 1 : Nat) : Int) (by omega) (by omega)
                obtain rfl := Option.some.inj hA2
                rw [Int.toNat_natCast] at hcs2
                obtain ⟨s2, hs2⟩ : ∃ x, rdOf ByteArray.empty t.f3 ((k - 1 : Nat) : Int) = x := ⟨_, rfl⟩
                rw [hs2] at hcs2
                have HS2 := Aside0.mk hs2
                clear hs2
                have e1 : IntKind.i64.wrap ((k : Int) - 1) = ((k - 1 : Nat) : Int) := by rw [show ((k : Int) - 1) = ((k - 1 : Nat) : Int) by omega]; rw [IntKind.wrap_i64]; omega
                have e2 : (k : Int) - 1 = ((k - 1 : Nat) : Int) := by omega
                have hk1 : (0 : Int) < (k : Int) := by omega
                have hkn : 0 < k := by omega
                have hkd : decide (0 < k) = true := decide_eq_true hkn
                have hkd2 : decide ((k : Int) > 0) = true := decide_eq_true hk1
                have hk2 : ((k - 1 : Nat) : Int) < (t.f3.length : Int) := by omega
                cases hq : (Op.bytesLess s.toList s2.toList || s.toList == s2.toList) with
                | false =>
                  have hOKk : nOK t.f3 k = true := by
                    unfold nOK nameLe
                    rw [HS.out, HS2.out, he, hq]
                    simp
                  have HOKk := Aside0.mk hOKk
                  clear hOKk
                  go_upto_region 27 with fail
                  have HRQ := Aside0.mk (fun W => (show Calls Tryd.prog 41 #[.string s] W fun e w' => e = .returned (.bool (isE s)) ∧ w' = W from rEntry_any s W))
                  rw [he9] at HRQ
                  go_quiet ((go_at_call 41; with_reducible exact Calls.quiet_of_same (HRQ.out _)))
                  have HBk := Aside0.mk (pw_below_drewN HBk.out nq)
                  go_wp2_with fail
                  refine ⟨⟨k + 1, by go_num, by omega, ⟨fun i hi => ?_⟩, HG, HP, HBk, HKk⟩, by simp [intOf]; omega⟩
                  rcases Nat.lt_succ_iff_lt_or_eq.1 hi with h | h
                  · exact HOK.out i h
                  · exact h ▸ HOKk.out
                | true =>
                  have hbad : ¬ namesOK t.f3 := fun h => by
                    have h9 := h k hlt
                    unfold nOK nameLe at h9
                    rw [HS.out, HS2.out, he, hq] at h9
                    simp at h9
                    exact hk0 h9
                  have HC : Aside0 (chk (N + 1) t deep n = (9, n + 1)) := ⟨by rw [chk, if_neg (by have := HN1.out; omega), if_neg (by rw [HF.out]; simp), if_pos hbad]⟩
                  clear hbad
                  go_upto_region 27 with fail
                  have HRQ := Aside0.mk (fun W => (show Calls Tryd.prog 41 #[.string s] W fun e w' => e = .returned (.bool (isE s)) ∧ w' = W from rEntry_any s W))
                  rw [he9] at HRQ
                  go_quiet ((go_at_call 41; with_reducible exact Calls.quiet_of_same (HRQ.out _)))
                  have HBk := Aside0.mk (pw_below_drewN HBk.out nq)
                  go_wp2_with fail
                  exact bodyPost_ret (v := .int .i64 9) (by simp [results, Tryd.results31, go_sem]) rfl ⟨by rw [HC.out], by rw [HC.out]; show _ = some (Obj.cells #[.int .i64 ((n + 1 : Nat) : Int)] 3 (0, 0)); rw [← HN1.out]; exact HG.out, HKk.out, HBk.out⟩
            · have he9 : isE s = false := by simpa using he
              have hbad : ¬ namesOK t.f3 := fun h => by
                have h9 := h k hlt
                unfold nOK at h9
                rw [HS.out, he9] at h9
                simp at h9
              have HC : Aside0 (chk (N + 1) t deep n = (9, n + 1)) := ⟨by rw [chk, if_neg (by have := HN1.out; omega), if_neg (by rw [HF.out]; simp), if_pos hbad]⟩
              clear hbad
              go_upto_region 27 with fail
              have HRQ := Aside0.mk (fun W => (show Calls Tryd.prog 41 #[.string s] W fun e w' => e = .returned (.bool (isE s)) ∧ w' = W from rEntry_any s W))
              rw [he9] at HRQ
              go_quiet ((go_at_call 41; with_reducible exact Calls.quiet_of_same (HRQ.out _)))
              have HBk := Aside0.mk (pw_below_drewN HBk.out nq)
              go_wp2_with fail
              exact bodyPost_ret (v := .int .i64 9) (by simp [results, Tryd.results31, go_sem]) rfl ⟨by rw [HC.out], by rw [HC.out]; show _ = some (Obj.cells #[.int .i64 ((n + 1 : Nat) : Int)] 3 (0, 0)); rw [← HN1.out]; exact HG.out, HKk.out, HBk.out⟩
          · have hkk : k = t.f3.length := by omega
            subst hkk
            have hOKs : namesOK t.f3 := fun i hi => HOK.out i hi
            have HC : Aside0 (chk (N + 1) t deep n = kidsC (fun u m => chk N u (deep + 1) m) t.f4 (n + 1)) := ⟨by rw [chk, if_neg (by have := HN1.out; omega), if_neg (by rw [HF.out]; simp), if_neg (fun h => h hOKs)]⟩
            clear hOKs HOK hlt
            obtain ⟨b0, b1, b2, b3, b4⟩ := cells5 HP.out
            clear b0 b1 b2
            go_wp2_with fail
            have hn9 : n1 ≤ 65536 := by omega
            clear b3 b4
            go_loopw [9] (fun v wr => ∃ (k mm : Nat), v = .int .i64 (k : Int) ∧ k ≤ t.f4.length ∧ mm ≤ 65536 ∧ Aside0 (chk (N + 1) t deep n = kidsC (fun u m => chk N u (deep + 1) m) (t.f4.drop k) mm) ∧ Aside0 (wr.heap[g]? = some (.cells #[.int .i64 (mm : Int)] 3 (0, 0))) ∧ Aside0 (wr.heap[pp]? = some (.cells #[.int .i64 t.f0, .bool t.f1, .slice A2 t.f2.length c2, .slice A3 t.f3.length c3, .slice A4 t.f4.length c4] 26 (0, 0))) ∧ Aside0 (Below w0.heap.size w0 wr) ∧ Aside0 (KeepBut w wr g none)) (fun v _ => t.f4.length - (intOf v).toNat)
            case atStart => exact ⟨0, n1, rfl, Nat.zero_le _, hn9, ⟨by rw [HC.out, HN1.out]; rfl⟩, HG, HP, HBk, HKk⟩
            case round =>
              clear HG HP HBk HKk HC HG2 HP2 HK2 HB2
              obtain ⟨k, mm, rfl, hk, hmm, HC, HG, HP, HBk, HKk⟩ := hrel
              obtain ⟨b0, b1, b2, b3, b4⟩ := cells5 HP.out
              clear b0 b1 b2 b3
              by_cases hlt : k < t.f4.length
              · obtain ⟨ad, B2, d2, B3, d3, B4, d4, hA, e0, e1, e2, e3, e4, r1, r2, r3, r4, r5, r6⟩ := at_T26 HKK.out (k : Int) (by omega) (by omega)
                obtain ⟨u, hu⟩ : ∃ x, rd_T26 t.f4 (k : Int) = x := ⟨_, rfl⟩
                have hue : t.f4[k] = u := by rw [← hu]; unfold rd_T26; rw [Int.toNat_natCast, List.getD_eq_getElem?_getD, List.getElem?_eq_getElem hlt]; rfl
                have HU := Aside0.mk hue
                have HGU : Aside0 (GT N u) := ⟨hue ▸ HG8.out _ (List.getElem_mem hlt)⟩
                rw [hu] at e0 e1 e2 e3 e4 r1 r2 r3 r4 r5 r6
                rw [Int.toNat_natCast] at e0 e1 e2 e3 e4
                have f0 := pw_cell_below HBk.out e0
                have f1 := pw_cell_below HBk.out e1
                have f2 := pw_cell_below HBk.out e2
                have f3 := pw_cell_below HBk.out e3
                have f4 := pw_cell_below HBk.out e4
                have HTR : Aside0 (TR w0 u B2 d2 B3 d3 B4 d4) := ⟨⟨r1, r2, r3, r4, r5, r6⟩⟩
                subst hA
                clear hue hu e0 e1 e2 e3 e4 r1 r2 r3 r4 r5 r6
                have HCC : Aside0 (chk (N + 1) t deep n = if (chk N u (deep + 1) mm).1 ≠ 0 then chk N u (deep + 1) mm else kidsC (fun u m => chk N u (deep + 1) m) (t.f4.drop (k + 1)) (chk N u (deep + 1) mm).2) := ⟨by rw [HC.out, List.drop_eq_getElem_cons hlt, HU.out, kidsC]⟩
                have HLE : Aside0 ((chk N u (deep + 1) mm).1 = 0 → (chk N u (deep + 1) mm).2 ≤ 65536) := ⟨chk_le N u (deep + 1) mm hmm⟩
                have hCall := IH.out u B2 d2 B3 d3 B4 d4 wr g mm (deep + 1) HTR.out HGU.out HBk.out hg HG.out hmm (by omega)
                obtain ⟨r1, r2, hr⟩ : ∃ a b, chk N u (deep + 1) mm = (a, b) := ⟨_, _, rfl⟩
                rw [hr] at HCC HLE hCall
                simp only at HCC HLE hCall
                rw [show (((deep + 1 : Nat)) : Int) = (deep : Int) + 1 from by omega] at hCall
                have HCALL := Aside0.mk hCall
                clear hCall hr
                go_wp2_with fail
                refine HCALL.out.mono ?_
                rintro e_ w7 ⟨rfl, hg7, hk7, hb7⟩
                have HG7 := Aside0.mk hg7
                have HK7 : Aside0 (KeepBut w w7 g none) := ⟨HKk.out.trans hk7 (.inl rfl)⟩
                have HB7 := Aside0.mk hb7
                have HP7 := Aside0.mk (hk7.blk HP.out hgp (by simp))
                clear hg7 hk7 hb7 HCALL f0 f1 f2 f3 f4 b4 HG HBk HKk HC
                by_cases hr0 : r1 = 0
                · subst hr0
                  have hle := HLE.out rfl
                  have HC7 := HCC.out
                  rw [if_neg (by simp)] at HC7
                  have HC8 := Aside0.mk HC7
                  clear HC7 HCC HLE
                  go_wp2_with fail
                  exact ⟨⟨k + 1, r2, by go_num, by omega, hle, HC8, HG7, HP7, HB7, HK7⟩, by simp [intOf]; omega⟩
                · have hne : (r1 != 0) = true := by simpa using hr0
                  have HC7 := HCC.out
                  rw [if_pos hr0] at HC7
                  have HC8 := Aside0.mk HC7
                  clear HC7 HCC HLE hr0
                  go_wp2_with fail
                  exact bodyPost_ret (v := .int .i64 r1) (by simp [results, Tryd.results31, go_sem]) rfl ⟨by rw [HC8.out], by rw [HC8.out]; exact HG7.out, HK7.out, HB7.out⟩
              · have hkk : k = t.f4.length := by omega
                subst hkk
                have HC7 := HC.out
                rw [List.drop_length, kidsC] at HC7
                have HC8 := Aside0.mk HC7
                clear HC7 HC
                go_wp2_with fail
                exact bodyPost_ret (v := .int .i64 0) (by simp [results, Tryd.results31, go_sem]) rfl ⟨by rw [HC8.out], by rw [HC8.out]; exact HG.out, HKk.out, HBk.out⟩
theorem rcheck_full (w0 : World) : ∀ N, RCK w0 N := by
  intro N
  induction N with
  | zero => intro t A2 c2 A3 c3 A4 c4 w g n deep h hG; exact hG.elim
  | succ N ih =>
    intro t A2 c2 A3 c3 A4 c4 w g n deep h hG hB hg hblk hn hdp
    have hG' := hG
    obtain ⟨-, ⟨-, m1, -⟩, ⟨-, m2, -⟩, -, m3, -⟩ := hG'
    by_cases h1 : 65536 < n + 1 ∨ 64 < deep
    · have hc : chk (N + 1) t deep n = (5, n + 1) := by rw [chk, if_pos h1]
      rw [hc]
      refine (rcheck_long t A2 c2 A3 c3 A4 c4 w g n deep hblk hn hdp h1 (by omega) (by omega) (by omega)).mono ?_
      rintro e w' ⟨k1, k2, k3, k4⟩
      exact ⟨k1, k2, k3, k4 w0 hB hg⟩
    · by_cases h2 : formE t ≠ 0
      · have hc : chk (N + 1) t deep n = (formE t, n + 1) := by rw [chk, if_neg h1, if_pos h2]
        rw [hc]
        refine (rcheck_form t A2 c2 A3 c3 A4 c4 w g n deep hblk (by omega) (by omega) h2 (by omega) (by omega) (by omega)).mono ?_
        rintro e w' ⟨k1, k2, k3, k4⟩
        exact ⟨k1, k2, k3, k4 w0 hB hg⟩
      · exact rcheck_step w0 N ih t A2 c2 A3 c3 A4 c4 w g n deep h hG hB hg hblk (by omega) (by omega) (Classical.not_not.1 h2)
set_option maxHeartbeats 400000 in
/-- tree.Check -/
theorem RCheck_any (N : Nat) (t : S26) (A2 : Option Addr) (c2 : Nat) (A3 : Option Addr) (c3 : Nat) (A4 : Option Addr) (c4 : Nat) (w : World) (h : TR w t A2 c2 A3 c3 A4 c4) (hG : GT N t) :
    Calls Tryd.prog 13 #[TV t A2 c2 A3 c3 A4 c4] w fun e w' => e = .returned (.int .i64 (chk N t 1 0).1) ∧ Below w.heap.size w w' := by
  obtain ⟨wb, hwb⟩ : ∃ x, w.alloc (.cells #[.int .i64 t.f0, .bool t.f1, .slice A2 t.f2.length c2, .slice A3 t.f3.length c3, .slice A4 t.f4.length c4] 26) = x := ⟨_, rfl⟩
  have hbw : Below w.heap.size w wb := hwb ▸ below_alloc (Below.refl _ w) _
  have hsz : wb.heap.size = w.heap.size + 1 := by rw [← hwb]; simp
  have HGR := Aside0.mk (rcheck_full w N t A2 c2 A3 c3 A4 c4 (wb.alloc (.cells #[.int .i64 0] 3)) (w.heap.size + 1) 0 1 h hG (below_alloc hbw _) (by omega) (hsz ▸ heap_alloc_new wb _) (by omega) (by omega))
  rw [← hwb] at HGR
  clear hbw hsz hwb wb h hG
  go_enter Tryd.func13, Tryd.ntmps13
  go_wp2_with fail
  refine HGR.out.mono ?_
  rintro e_ w1 ⟨rfl, hg1, hk1, hb1⟩
  have HB := Aside0.mk hb1
  clear hg1 hk1 hb1 HGR
  go_wp2_with fail
  exact bodyPost_ret (v := .int .i64 (chk N t 1 0).1) (by simp [results, Tryd.results13, go_sem]) rfl ⟨rfl, HB.out⟩
end Go.Proofs.YtfnofjcdaghniaaDoor.Tree
