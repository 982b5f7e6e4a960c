/- For every op that is written: what is read of the frame, whatever stands behind it, is that op; and whatever bytes are read as an op, its frame is those bytes. No condition. -/
import Derived.Test.YtoblfdloakkmmaaDecC
import Derived.Test.YtoblfdloakkmmaaMq1
namespace Go.Proofs.Ytoblfdloakkmmaa.Pure
set_option linter.unusedVariables false
open Go.RowKit Go.Proofs.Ytoblfdloakkmmaa.Mp Go.Proofs.Ytoblfdloakkmmaa.Mq Go.Proofs.Ytoblfdloakkmmaa.PL Go.Proofs.Ytoblfdloakkmmaa.Rd Go.Proofs.YtoblfdloakkmmaaW.PrintWords Go.Proofs.YtoblfdloakkmmaaW.PrintLast Go.Proofs.YtoblfdloakkmmaaW.PrintMore

theorem back_j0 (b : List Int) (hb : B8 b) (hl : b.length ≤ 4000000) : Ev (fun k => Mq.pantrylaw26_ProtoBack.j0 k b) true := by
  obtain ⟨K5, h5⟩ := known_ev
  have hd : Rd.decF b = some (decAll b) := by unfold decF; rw [if_pos (b8_in hb (by omega))]
  rcases decAll_inv b hb with he | ⟨kd, ns, ts, e1, e2, e3, k1, k2, n1, n2, n3⟩
  · refine ⟨K5 + 1, fun k hk => ?_⟩
    obtain ⟨k, rfl⟩ : ∃ q, k = q + 1 := ⟨k - 1, by omega⟩
    simp only [Mq.pantrylaw26_ProtoBack.j0]
    exact bd hd (jf he (bd (h5 k (by omega)) rfl))
  · obtain ⟨K1, h1⟩ := enc_ev kd ns ts (fun _ _ => n3)
    obtain ⟨K3, h3⟩ := same_ev (frameOf kd (bodyOf ns ts)) (frameOf kd (bodyOf ns ts)) (by omega)
    refine ⟨K5 + K1 + K3 + 1, fun k hk => ?_⟩
    obtain ⟨k, rfl⟩ : ∃ q, k = q + 1 := ⟨k - 1, by omega⟩
    have q1 := h1 k (by omega)
    have q3 := h3 k (by omega)
    have q5 := h5 k (by omega)
    simp only at q1 q3 q5
    rw [encOf_ok (by omega) (by omega)] at q1
    generalize frameOf kd (bodyOf ns ts) = F at *
    rw [e1] at hd
    simp only [Mq.pantrylaw26_ProtoBack.j0]
    refine bd hd (it rfl (bd q1 (it rfl (it (Int.natCast_nonneg _) (it (by show (F.length : Int) ≤ _; omega) (bd (x := true) ?_ (it rfl (bd q5 rfl))))))))
    show pantrylaw26_same.f k F (b.take ((F.length : Int)).toNat) = some true
    rw [Int.toNat_natCast, ← e2, q3]
    simp
theorem tot_mem {s : ByteArray} : ∀ {l : List ByteArray}, s ∈ l → s.size ≤ tot l := by
  intro l
  induction l with
  | nil => intro h; cases h
  | cons a l ih =>
    intro h
    have e : tot (a :: l) = a.size + tot l := by simp [tot]
    rcases List.mem_cons.1 h with rfl | h
    · omega
    · have := ih h; omega
theorem ProtoBack (kind : Int) (l1 : List Int) (l2 : List ByteArray) (l3 : List Int) (hk : (Lit.int .i64 kind).wf = true) (m1 : l1.length ≤ maxLen) (y1 : l1.length * 8 ≤ 140737488351232) (g1 : ∀ x ∈ l1, (Lit.int .i64 x).wf = true)
    (m2 : l2.length ≤ maxLen) (y2 : l2.length * 16 ≤ 140737488351232) (g2 : ∀ s ∈ l2, s.size ≤ 140737488351232) (m3 : l3.length ≤ maxLen) (y3 : l3.length * 1 ≤ 140737488351232) (g3 : ∀ x ∈ l3, (Lit.int .u8 x).wf = true) : ∃ k, Mq.pantrylaw26_ProtoBack.f k kind l1 l2 l3 = some true := by
  have hb3 := B8.of_wf g3
  obtain ⟨r, ⟨K0, h0⟩, hr⟩ := heavy_ev l2 (l1.length + l3.length) g2 (by omega) (by omega)
  have ew : wrap64 ((l1.length : Int) + (l3.length : Int)) = ((l1.length + l3.length : Nat) : Int) := by rw [w64 (by omega) (by omega)]; omega
  cases r with
  | true =>
    refine ⟨K0, ?_⟩
    unfold Mq.pantrylaw26_ProtoBack.f
    rw [ew]
    exact bd (h0 _ (Nat.le_refl _)) (it rfl rfl)
  | false =>
    have ht := hr rfl
    have hbl : l1.length ≤ 64 → l2.length ≤ 1024 → (bodyOf l1 l2).length ≤ 4194304 := fun a b => by rw [body_length]; clear ew; omega
    have hbl2 : (bodyOf l1 l2).length ≤ 4194304 := by rw [body_length]; clear ew; omega
    have hsz : ∀ s ∈ l2, s.size ≤ 4194304 := fun s hs => by have := tot_mem hs; clear ew; omega
    obtain ⟨K1, h1⟩ := enc_ev kind l1 l2 hbl
    obtain ⟨K4, h4⟩ := ops_ev kind l1 l2 (by clear ew; omega) (by clear ew; omega)
    obtain ⟨K5, h5⟩ := back_j0 l3 hb3 (by clear ew; omega)
    refine ⟨K0 + K1 + K4 + K5, ?_⟩
    have q0 := h0 (K0 + K1 + K4 + K5) (by clear ew; omega)
    have q1 := h1 (K0 + K1 + K4 + K5) (by clear ew; omega)
    have q4 := h4 (K0 + K1 + K4 + K5) (by clear ew; omega)
    have q5 := h5 (K0 + K1 + K4 + K5) (by clear ew; omega)
    simp only at q0 q1 q4 q5
    generalize K0 + K1 + K4 + K5 = k at *
    clear h0 h1 h4 h5
    unfold Mq.pantrylaw26_ProtoBack.f
    rw [ew]
    clear ew
    refine bd q0 (jf (by simp) (bd q1 ?_))
    by_cases e1 : kind < 1 ∨ 100 < kind
    · rw [encOf_arg e1]; exact jf (by decide) q5
    by_cases e2 : 64 < l1.length ∨ 1024 < l2.length
    · rw [encOf_long e1 e2]; exact jf (by decide) q5
    rw [encOf_ok e1 e2]
    have hfl := frame_len kind (bodyOf l1 l2)
    have hfb := frame_B8 kind (bodyOf l1 l2) (body_B8 l1 l2)
    have hdec := decAll_frame kind l1 l2 l3 (by omega) (by omega) g1 hsz (by omega) (by omega) hbl2
    generalize frameOf kind (bodyOf l1 l2) = F at *
    have c1 : ([] : List Int).length + F.length < 140737488355328 := by rw [List.length_nil]; omega
    have c2 : F.length + l3.length < 140737488355328 := by omega
    have hd : Rd.decF (F ++ l3) = some (kind, l1, l2, (F.length : Int), 0) := by
      unfold decF
      rw [if_pos (b8_in (fun x hx => (List.mem_append.1 hx).elim (hfb x) (hb3 x)) (by rw [List.length_append]; omega)), hdec]
    refine it rfl (bd rfl (it c1 ?_))
    rw [List.nil_append]
    exact bd rfl (it c2 (bd hd (it rfl (it rfl (bd q4 (it rfl q5))))))
end Go.Proofs.Ytoblfdloakkmmaa.Pure
