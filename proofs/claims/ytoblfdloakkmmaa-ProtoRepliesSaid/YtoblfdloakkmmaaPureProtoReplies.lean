/- For every Reply: its frame, or the refusal, is the reference's, and what is read of the frame, whatever stands behind it, is that Reply. No condition. -/
import Derived.Test.YtoblfdloakkmmaaRepA
import Derived.Test.YtoblfdloakkmmaaMs1
namespace Go.Proofs.Ytoblfdloakkmmaa.Pure
set_option linter.unusedVariables false
open Go.RowKit Go.Proofs.Ytoblfdloakkmmaa.Mp Go.Proofs.Ytoblfdloakkmmaa.Ms Go.Proofs.Ytoblfdloakkmmaa.PL Go.Proofs.Ytoblfdloakkmmaa.Rd Go.Proofs.YtoblfdloakkmmaaW.PrintWords Go.Proofs.YtoblfdloakkmmaaW.PrintLast Go.Proofs.YtoblfdloakkmmaaW.PrintMore

theorem tot_mem {s : ByteArray} : ∀ {l : List ByteArray}, s ∈ l → s.size ≤ tot l := by
  intro l
  induction l with
  | nil => intro h; cases h
  | cons a l ih =>
    intro h
    have e : tot (a :: l) = a.size + tot l := by simp [tot]
    rcases List.mem_cons.1 h with rfl | h
    · omega
    · have := ih h; omega
theorem reps_l0 (err n : Int) (paths : List ByteArray) (text : ByteArray) (more : List Int) (hs : ∀ s ∈ paths, s.size ≤ 140737488351232) (ht : paths.length < 9000000000000000) : ∀ (d i m : Nat), i + d = paths.length → m < 4000000000000000000 →
    ∃ m' : Nat, (m' ≤ 6000 → m + tot (paths.drop i) ≤ 6000) ∧ ∀ K r, (∀ k, K ≤ k → Ms.pantrylaw26_ProtoReplies.j1 k more (m' : Int) err paths text n = some r) → ∀ k, K + d < k → Ms.pantrylaw26_ProtoReplies.l0 k more (m : Int) (i : Int) err paths text n = some r := by
  intro d
  induction d with
  | zero =>
    intro i m hi hm
    refine ⟨m, fun h => ?_, fun K r hj k hk => ?_⟩
    · rw [List.drop_eq_nil_of_le (by omega)]
      simp only [tot, List.map_nil, List.sum_nil]; omega
    · obtain ⟨k, rfl⟩ : ∃ q, k = q + 1 := ⟨k - 1, by omega⟩
      simp only [Ms.pantrylaw26_ProtoReplies.l0]
      exact jf (by omega) (hj k (by omega))
  | succ d ih =>
    intro i m hi hm
    have hil : i < paths.length := by omega
    have c1 : (i : Int) < (paths.length : Int) := by omega
    by_cases hm6 : (m : Int) ≤ 6000
    · have hsz := hs paths[i] (List.getElem_mem hil)
      obtain ⟨m', h1, h2⟩ := ih (i + 1) (m + paths[i].size) (by omega) (by omega)
      have er : rdOf ByteArray.empty paths (i : Int) = paths[i] := by rw [rdOf_nat, getD_lt _ _ _ hil]
      refine ⟨m', fun h => ?_, fun K r hj k hk => ?_⟩
      · have := h1 h
        rw [List.drop_eq_getElem_cons hil]
        simp only [tot, List.map_cons, List.sum_cons] at this ⊢
        omega
      · obtain ⟨k, rfl⟩ : ∃ q, k = q + 1 := ⟨k - 1, by omega⟩
        have h3 := h2 K r hj k (by omega)
        have e2 := w1 i (by omega)
        have e3 : wrap64 ((m : Int) + (paths[i].size : Int)) = ((m + paths[i].size : Nat) : Int) := by rw [w64 (by clear e2; omega) (by clear e2; omega)]; clear e2; omega
        simp only [Ms.pantrylaw26_ProtoReplies.l0]
        rw [er, e2, e3]
        exact it c1 (it hm6 (it (Int.natCast_nonneg _) h3))
    · refine ⟨m, fun h => by omega, fun K r hj k hk => ?_⟩
      obtain ⟨k, rfl⟩ : ∃ q, k = q + 1 := ⟨k - 1, by omega⟩
      simp only [Ms.pantrylaw26_ProtoReplies.l0]
      exact it c1 (jf hm6 (hj k (by omega)))
theorem replies_l0 (a n : Int) (t : List ByteArray) (s : ByteArray) (ht : t.length < 9000000000000000) : ∀ (d i k : Nat), i + d = t.length → d < k → pantrylaw26_replies.l0 k (i : Int) a t s n a t s n = some true := by
  intro d
  induction d with
  | zero =>
    intro i k hi hk
    obtain ⟨k, rfl⟩ : ∃ q, k = q + 1 := ⟨k - 1, by omega⟩
    simp only [pantrylaw26_replies.l0]
    exact jf (by omega) rfl
  | succ d ih =>
    intro i k hi hk
    obtain ⟨k, rfl⟩ : ∃ q, k = q + 1 := ⟨k - 1, by omega⟩
    have c1 : (i : Int) < (t.length : Int) := by omega
    have h := ih (i + 1) k (by omega) (by omega)
    have e2 := w1 i (by omega)
    simp only [pantrylaw26_replies.l0]
    rw [e2]
    exact it c1 (it (Int.natCast_nonneg _) (it c1 (it trivial h)))
theorem replies_ev (a n : Int) (t : List ByteArray) (s : ByteArray) (ht : t.length < 9000000000000000) : Ev (fun k => pantrylaw26_replies.f k a t s n a t s n) true := by
  refine ⟨t.length + 3, fun k hk => ?_⟩
  obtain ⟨k, rfl⟩ : ∃ q, k = q + 1 := ⟨k - 1, by omega⟩
  have h := replies_l0 a n t s ht t.length 0 k (by omega) (by omega)
  have hb : ((t.length : Int) != (t.length : Int)) = false := by simp
  unfold pantrylaw26_replies.f
  refine it rfl (it rfl (it rfl ?_))
  rw [hb]
  simp only [pantrylaw26_replies.j0]
  exact jf (by simp) h
theorem repBody_length (err n : Int) (paths : List ByteArray) (text : ByteArray) : (repBodyOf err n paths text).length = 24 + 4 * paths.length + tot paths + text.size := by
  simp only [repBodyOf, headOf, nb, List.length_append, flat_tb, LE_length, tb_length]; omega
theorem repBody_B8 (err n : Int) (paths : List ByteArray) (text : ByteArray) : B8 (repBodyOf err n paths text) := by
  have htb : ∀ s : ByteArray, B8 (tb s) := by
    intro s x h
    simp only [tb, List.mem_append] at h
    rcases h with h | h
    · exact LE_B8 _ _ x h
    · exact bytesOf_B8 _ x h
  intro x hx
  simp only [repBodyOf, headOf, List.mem_append, List.mem_flatMap] at hx
  rcases hx with (((h | h) | h) | ⟨a, _, h⟩) | h
  · exact LE_B8 _ _ x h
  · exact LE_B8 _ _ x h
  · exact LE_B8 _ _ x h
  · exact htb a x h
  · exact htb text x h
theorem ProtoReplies (err : Int) (l1 : List ByteArray) (text : ByteArray) (n : Int) (l2 : List Int) (he : (Lit.int .i64 err).wf = true) (m1 : l1.length ≤ maxLen) (y1 : l1.length * 16 ≤ 140737488351232) (g1 : ∀ s ∈ l1, s.size ≤ 140737488351232) (ht : text.size ≤ 140737488351232) (hn : (Lit.int .i64 n).wf = true)
    (m2 : l2.length ≤ maxLen) (y2 : l2.length * 1 ≤ 140737488351232) (g2 : ∀ x ∈ l2, (Lit.int .u8 x).wf = true) : ∃ k, Ms.pantrylaw26_ProtoReplies.f k err l1 text n l2 = some true := by
  have hb2 := B8.of_wf g2
  have ew1 : wrap64 ((text.size : Int) + (l1.length : Int)) = ((text.size + l1.length : Nat) : Int) := by rw [w64 (by omega) (by omega)]; omega
  have ew2 : wrap64 (((text.size + l1.length : Nat) : Int) + (l2.length : Int)) = ((text.size + l1.length + l2.length : Nat) : Int) := by clear ew1; rw [w64 (by omega) (by omega)]; omega
  obtain ⟨m', h1, h2⟩ := reps_l0 err n l1 text l2 g1 (by clear ew1 ew2; omega) l1.length 0 (text.size + l1.length + l2.length) (by omega) (by clear ew1 ew2; omega)
  suffices hj : ∃ K, ∀ k, K ≤ k → Ms.pantrylaw26_ProtoReplies.j1 k l2 (m' : Int) err l1 text n = some true by
    obtain ⟨K, hj⟩ := hj
    refine ⟨K + l1.length + 1, ?_⟩
    unfold Ms.pantrylaw26_ProtoReplies.f
    rw [ew1, ew2]
    exact h2 K true hj _ (by clear ew1 ew2; omega)
  clear ew1 ew2 h2
  by_cases hm : 6000 < m'
  · refine ⟨1, fun k hk => ?_⟩
    obtain ⟨k, rfl⟩ : ∃ q, k = q + 1 := ⟨k - 1, by omega⟩
    simp only [Ms.pantrylaw26_ProtoReplies.j1]
    exact it (by omega) rfl
  have htot := h1 (by omega)
  rw [List.drop_zero] at htot
  have hbl : (repBodyOf err n l1 text).length ≤ 4194304 := by rw [repBody_length]; omega
  obtain ⟨K1, q1⟩ := rep_ev err l1 text n hbl
  obtain ⟨K2, q2⟩ := rrep_ev err l1 text n hbl
  obtain ⟨K3, q3⟩ := same_ev (repOf err l1 text n).1 (repOf err l1 text n).1 (by
    unfold repOf
    split
    · decide
    · split
      · decide
      · simp only [frame_len]; omega)
  obtain ⟨K4, q4⟩ := replies_ev err n l1 text (by omega)
  obtain ⟨K5, q5⟩ := known_ev
  refine ⟨K1 + K2 + K3 + K4 + K5 + 2, fun k hk => ?_⟩
  obtain ⟨k, rfl⟩ : ∃ q, k = q + 2 := ⟨k - 2, by omega⟩
  have p1 := q1 (k + 1) (by omega)
  have p2 := q2 (k + 1) (by omega)
  have p3 := q3 (k + 1) (by omega)
  have p4 := q4 k (by omega)
  have p5 := q5 k (by omega)
  simp only at p1 p2 p3 p4 p5
  clear q1 q2 q3 q4 q5
  have hne : ((repOf err l1 text n).2 != (repOf err l1 text n).2) = false := by simp
  simp only [Ms.pantrylaw26_ProtoReplies.j1]
  refine jf (by omega) (bd p1 (bd p2 (bd p3 (it (by simp) ?_))))
  rw [hne]
  simp only [Ms.pantrylaw26_ProtoReplies.j2]
  refine jf (by simp) ?_
  by_cases e1 : err < 0 ∨ 100 < err
  · rw [repOf_arg e1]; exact jf (by decide) (bd p5 rfl)
  by_cases e2 : 1024 < l1.length
  · rw [repOf_long e1 e2]; exact jf (by decide) (bd p5 rfl)
  rw [repOf_ok e1 e2]
  have hfb := frame_B8 200 _ (repBody_B8 err n l1 text)
  have hfl := frame_len 200 (repBodyOf err n l1 text)
  have hdec := repAll_frame err n l1 text l2 (by omega) (by omega) hn (fun s hs => by have := tot_mem hs; omega) (by omega) (by omega) hbl
  generalize frameOf 200 (repBodyOf err n l1 text) = F at *
  have c1 : ([] : List Int).length + F.length < 140737488355328 := by rw [List.length_nil]; omega
  have c2 : F.length + l2.length < 140737488355328 := by omega
  have hd : Rd.repF (F ++ l2) = some (err, l1, text, n, (F.length : Int), 0) := by
    unfold repF
    rw [if_pos (b8_in (fun x hx => (List.mem_append.1 hx).elim (hfb x) (hb2 x)) (by rw [List.length_append]; omega)), hdec]
  refine it rfl (bd rfl (it c1 ?_))
  rw [List.nil_append]
  exact bd rfl (it c2 (bd hd (it rfl (it rfl (bd p4 (it rfl (bd p5 rfl)))))))
end Go.Proofs.Ytoblfdloakkmmaa.Pure
