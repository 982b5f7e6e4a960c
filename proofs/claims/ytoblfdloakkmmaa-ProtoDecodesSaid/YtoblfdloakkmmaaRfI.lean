/- pantryref26: Decode. Own work. -/
import Derived.Test.YtoblfdloakkmmaaRfO
import Derived.Lib.Hide
namespace Go.Proofs.Ytoblfdloakkmmaa.Rf
set_option linter.unusedVariables false
set_option linter.unusedSimpArgs false
open Go.RowKit Go.Proofs.Ytoblfdloakkmmaa.Mp Go.Proofs.Ytoblfdloakkmmaa.PL Go.Proofs.Ytoblfdloakkmmaa.Rd Go.Proofs.YtoblfdloakkmmaaW.PrintWords Go.Proofs.YtoblfdloakkmmaaW.PrintLast Go.Proofs.YtoblfdloakkmmaaW.PrintMore
theorem rk_B8 {l : List Int} (hb : B8 l) (bad : Bool) (m : Nat) : B8 (rk l bad m).2.1 := by
  rw [(rk_tk l bad m).1]; exact (tk_B8 hb bad m).2
theorem rt_B8 {l : List Int} (hb : B8 l) (bad : Bool) : B8 (rt l bad).2.1 := by
  unfold rt; exact rk_B8 (rk_B8 hb bad 4) _ _
def wa17 (w : World) : World := w.alloc (.cells #[.int .i64 0, .slice none 0 0, .slice none 0 0] 33)
def refPost (w : World) (kind n : Int) (p : List Int) (e_ : Ending) (w' : World) : Prop :=
      if (refBody p).1 = true then e_ = .returned (.tuple #[.agg #[.int .i64 0, .slice none 0 0, .slice none 0 0], .int .i64 0, .int .i64 3]) ∧ Below w.heap.size w w'
      else ∃ vN vT, e_ = .returned (.tuple #[.agg #[.int .i64 kind, vN, vT], .int .i64 n, .int .i64 0]) ∧ (Kd.int .i64).R 3 w' w.heap.size (fun _ => True) vN (refBody p).2.1 ∧ Kd.string.R 9 w' w.heap.size (fun _ => True) vT (refBody p).2.2 ∧ Below w.heap.size w w'
set_option maxHeartbeats 400000 in
theorem ref_dec_err (w : World) (A : Option Addr) (c : Nat) (l : List Int) (e : Int) (he : e ≠ 0)
    (HO : Calls Try.prog 34 #[.slice A l.length c, .bool false] (w.alloc (.cells #[.int .i64 0, .slice none 0 0, .slice none 0 0] 33)) (openE (w.alloc (.cells #[.int .i64 0, .slice none 0 0, .slice none 0 0] 33)) e)) :
    Calls Try.prog 17 #[.slice A l.length c] w fun e_ w' => e_ = .returned (.tuple #[.agg #[.int .i64 0, .slice none 0 0, .slice none 0 0], .int .i64 0, .int .i64 e]) ∧ Below w.heap.size w w' := by
  have HO' := Aside0.mk HO
  clear HO
  have hne : (e != 0) = true := by simpa using he
  go_enter Try.func17, Try.ntmps17
  go_wp2_with (go_at_call 34; refine HO'.out.mono ?_; rintro e_ w1 ⟨rfl, hb⟩; have hblk : w1.heap[w.heap.size]? = some (.cells #[.int .i64 0, .slice none 0 0, .slice none 0 0] 33 (0, 0)) := (hb.block w.heap.size (by simp)).trans (heap_alloc_new w _); have HBLK := Aside0.mk hblk; obtain ⟨hc0, hc1, hc2, hf0, hf1, hf2⟩ := cells3 hblk; have HB := Aside0.mk (below_then (below_alloc (Below.refl _ w) _) (by simp) hb : Below w.heap.size w w1); clear hb HO' hblk)
  have h3 := three HBLK.out (.int .i64 0) (.slice none 0 0) (.slice none 0 0)
  have hb3 : Below w.heap.size w (((w1.setCell ⟨w.heap.size, 0, none⟩ (.int .i64 0)).setCell ⟨w.heap.size, 1, none⟩ (.slice none 0 0)).setCell ⟨w.heap.size, 2, none⟩ (.slice none 0 0)) := below_set (below_set (below_set HB.out (Nat.le_refl _)) (Nat.le_refl _)) (Nat.le_refl _)
  generalize (((w1.setCell ⟨w.heap.size, 0, none⟩ (.int .i64 0)).setCell ⟨w.heap.size, 1, none⟩ (.slice none 0 0)).setCell ⟨w.heap.size, 2, none⟩ (.slice none 0 0)) = w3 at *
  obtain ⟨g0, g1, g2, _, _, _⟩ := cells3 h3
  exact bodyPost_ret (v := .tuple #[.agg #[.int .i64 0, .slice none 0 0, .slice none 0 0], .int .i64 0, .int .i64 e]) (by simp [results, Try.results17, go_sem, g0, g1, g2]) rfl ⟨rfl, hb3⟩
theorem res17 {w wa wr : World} (hwa : w.alloc (.cells #[.int .i64 0, .slice none 0 0, .slice none 0 0] 33) = wa) (h : Below wa.heap.size wa wr) :
    wr.heap[w.heap.size]? = some (.cells #[.int .i64 0, .slice none 0 0, .slice none 0 0] 33 (0, 0)) ∧ Below w.heap.size w wr := by
  subst hwa
  exact ⟨(h.block w.heap.size (by simp)).trans (heap_alloc_new w _), below_then (below_alloc (Below.refl _ w) _) (by simp) h⟩
set_option maxHeartbeats 1000000 in
theorem ref_dec_ok (w : World) (A : Option Addr) (c : Nat) (l0 : List Int) (kind n : Int) (p : List Int) (hpb : B8 p)
    (HO : Calls Try.prog 34 #[.slice A l0.length c, .bool false] (w.alloc (.cells #[.int .i64 0, .slice none 0 0, .slice none 0 0] 33)) fun e_ w' => ∃ A2 c2, e_ = .returned (.tuple #[.slice A2 p.length c2, .int .i64 kind, .int .i64 n, .int .i64 0]) ∧ p.length ≤ c2 ∧ (Kd.int .u8).C (w.alloc (.cells #[.int .i64 0, .slice none 0 0, .slice none 0 0] 33)) A2 p.length p ∧ Below (w.alloc (.cells #[.int .i64 0, .slice none 0 0, .slice none 0 0] 33)).heap.size (w.alloc (.cells #[.int .i64 0, .slice none 0 0, .slice none 0 0] 33)) w') :
    Calls Try.prog 17 #[.slice A l0.length c] w fun e_ w' =>
      refPost w kind n p e_ w' := by
  have HO' := Aside0.mk HO
  clear HO
  have HPB := Aside0.mk hpb
  have HPOST := Aside0.mk (rfl : (fun e_ w' => refPost w kind n p e_ w') = (fun e_ w' => refPost w kind n p e_ w'))
  obtain ⟨c1, hc1⟩ : ∃ x, r4 p false = x := ⟨_, rfl⟩
  obtain ⟨l1, hl1⟩ : ∃ x, (rk p false 4).2.1 = x := ⟨_, rfl⟩
  obtain ⟨b1, hb1⟩ : ∃ x, (rk p false 4).2.2 = x := ⟨_, rfl⟩
  have HF : Aside0 (∀ (w0 w1 : World) (g : Nat), RS 78 w0 w1 g p false → Calls Try.prog 35 #[.pointer (some ⟨g, 0, none⟩)] w1 fun e w' => e = .returned (.int .i64 (c1 : Int)) ∧ RS 78 w0 w' g l1 b1 ∧ KeepBut w1 w' g none) := ⟨fun w0 w1 g h => by
    have h9 := four_any w0 w1 g p false h hpb
    rw [hc1, hl1, hb1] at h9
    exact h9⟩
  have HL1 : Aside0 (B8 l1) := ⟨hl1 ▸ rk_B8 hpb false 4⟩
  have HR : Aside0 (refBody p = if 64 < c1 then (true, [], []) else
    let N := enl c1 l1 b1
    if 1024 < r4 N.2.1 N.2.2 then (true, [], [])
    else
      let T := etl (r4 N.2.1 N.2.2) (rk N.2.1 N.2.2 4).2.1 (rk N.2.1 N.2.2 4).2.2
      (T.2.2 || decide (0 < T.2.1.length), N.1, T.1)) := ⟨by rw [refBody, hc1, hl1, hb1]⟩
  clear hc1 hl1 hb1 hpb
  go_enter Try.func17, Try.ntmps17
  go_wp2_with fail
  refine HO'.out.mono ?_
  rintro e_ w1 ⟨A2, c2, rfl, hc2, hC2, hB2⟩
  have HC2 := Aside0.mk hC2
  have HB2 := Aside0.mk hB2
  have HCC := Aside0.mk hc2
  clear hC2 hB2 hc2 HO'
  go_wp2_with fail
  have HJ0 : Aside0 (K1 (w.alloc (.cells #[.int .i64 0, .slice none 0 0, .slice none 0 0] 33)) ((w1.alloc (.cells #[.int .i64 kind, .slice none 0 0, .slice none 0 0] 33)).alloc (.cells #[.slice A2 p.length c2, .bool false] 78)) (w1.heap.size + 1) w1.heap.size kind (.slice none 0 0) [] p false) :=
    ⟨⟨blk_alloc (heap_alloc_new w1 _) _, Kd.R_nil _ _ _ _ _, rs_new78 (by simp) (below_alloc HB2.out _) HC2.out HCC.out, HPB.out, below_alloc (below_alloc HB2.out _) _, HB2.out.size⟩⟩
  refine (HF.out _ _ _ HJ0.out.rd).mono ?_
  rintro e_ w2 ⟨rfl, hS2, hK2⟩
  have HJ1 := Aside0.mk (HJ0.out.step hS2 HL1.out hK2)
  clear HJ0 hS2 hK2 HF HB2 HC2 HCC
  generalize w1.heap.size + 1 = g at *
  generalize w1.heap.size = gO at *
  generalize hwa : w.alloc (.cells #[.int .i64 0, .slice none 0 0, .slice none 0 0] 33) = wa at *
  by_cases h64 : 64 < c1
  · have hres := res17 hwa HJ1.out.bel
    have HRES := Aside0.mk hres.1
    have HBW := Aside0.mk hres.2
    obtain ⟨z0, z1, z2, zf0, zf1, zf2⟩ := cells3 hres.1
    have HDB : Aside0 (refBody p = (true, [], [])) := ⟨by rw [HR.out, if_pos h64]⟩
    clear hres HR
    go_wp2_with fail
    have h3 := three HRES.out (.int .i64 0) (.slice none 0 0) (.slice none 0 0)
    have hb3 : Below w.heap.size w (((w2.setCell ⟨w.heap.size, 0, none⟩ (.int .i64 0)).setCell ⟨w.heap.size, 1, none⟩ (.slice none 0 0)).setCell ⟨w.heap.size, 2, none⟩ (.slice none 0 0)) := below_set (below_set (below_set HBW.out (Nat.le_refl _)) (Nat.le_refl _)) (Nat.le_refl _)
    generalize (((w2.setCell ⟨w.heap.size, 0, none⟩ (.int .i64 0)).setCell ⟨w.heap.size, 1, none⟩ (.slice none 0 0)).setCell ⟨w.heap.size, 2, none⟩ (.slice none 0 0)) = wz at *
    obtain ⟨g0, g1, g2, _, _, _⟩ := cells3 h3
    exact bodyPost_ret (v := .tuple #[.agg #[.int .i64 0, .slice none 0 0, .slice none 0 0], .int .i64 0, .int .i64 3]) (by simp [results, Try.results17, go_sem, g0, g1, g2]) rfl (by unfold refPost; rw [HDB.out]; exact ⟨rfl, hb3⟩)
  · have HR2 : Aside0 (refBody p = (let N := enl c1 l1 b1
      if 1024 < r4 N.2.1 N.2.2 then (true, [], [])
      else
        let T := etl (r4 N.2.1 N.2.2) (rk N.2.1 N.2.2 4).2.1 (rk N.2.1 N.2.2 4).2.2
        (T.2.2 || decide (0 < T.2.1.length), N.1, T.1))) := ⟨by rw [HR.out, if_neg h64]⟩
    clear HR
    go_wp2_with fail
    go_loopw [12] (fun v wr => ∃ (k : Nat) (vN : Value) (ns l : List Int) (b : Bool), v = .int .i64 (k : Int) ∧ k ≤ c1 ∧ Aside0 (ns.length = k) ∧ Aside0 (K1 wa wr g gO kind vN ns l b) ∧ Aside0 (ns ++ (enl (c1 - k) l b).1 = (enl c1 l1 b1).1 ∧ (enl (c1 - k) l b).2 = (enl c1 l1 b1).2)) (fun v _ => c1 - (intOf v).toNat)
    case atStart => exact ⟨0, .slice none 0 0, [], l1, b1, rfl, Nat.zero_le _, ⟨rfl⟩, HJ1, ⟨by simp⟩⟩
    case round =>
      obtain ⟨k, vN, ns, l, b, rfl, hk, HNK, HJ, HE⟩ := hrel
      by_cases hlt : k < c1
      · have HN := Aside0.mk (show ∀ (w1 : World), RS 78 wa w1 g l b → Calls Try.prog 36 #[.pointer (some ⟨g, 0, none⟩)] w1 fun e w' => e = .returned (.int .i64 (r8 l b)) ∧ RS 78 wa w' g (rk l b 8).2.1 (rk l b 8).2.2 ∧ KeepBut w1 w' g none from fun w1 h => eight_any wa w1 g l b h HJ.out.b8)
        have HB2 := Aside0.mk (rk_B8 HJ.out.b8 b 8)
        have hHE := HE.out
        rw [show c1 - k = (c1 - (k + 1)) + 1 from by omega, enl] at hHE
        have HE2 := Aside0.mk hHE
        clear hHE HE
        obtain ⟨n8, hn8⟩ : ∃ x, r8 l b = x := ⟨_, rfl⟩
        obtain ⟨l2, hl2⟩ : ∃ x, (rk l b 8).2.1 = x := ⟨_, rfl⟩
        obtain ⟨b2, hb2⟩ : ∃ x, (rk l b 8).2.2 = x := ⟨_, rfl⟩
        rw [hn8, hl2, hb2] at HN
        rw [hn8, hl2, hb2] at HE2
        rw [hl2] at HB2
        clear hn8 hl2 hb2
        obtain ⟨AN, cN, rfl⟩ := Kd.R_slice HJ.out.row
        obtain ⟨x0, x1, x2, y0, y1, y2⟩ := cells3 HJ.out.obj
        go_wp2
        go_region_law (first | (go_simp; go_at_call 36; (with_reducible refine (HN.out _ ?hS).mono ?_); (case hS => exact HJ.out.drew.rd); rintro e w3 ⟨rfl, hS3, hK3⟩; have HJ3 := Aside0.mk (HJ.out.drew.step hS3 HB2.out hK3); obtain ⟨p0, p1, p2, q0, q1, q2⟩ := cells3 HJ3.out.obj; have p1a : ∀ o : Obj, (w3.alloc o).cell? ⟨gO, 1, none⟩ = some (.slice AN ns.length cN) := (fun o => (cells3 (blk_alloc HJ3.out.obj o)).2.1); clear hS3 hK3 HN) | (refine Kd.R_append_step (Kd.int .i64) (w0 := wa) wa.heap.size (by rfl) (.tmp 41) (.tmp 44) 22 3 (.int .i64 0) 8 (by rfl) Try.underlying22 info3 rfl (by decide) (by omega) (.slice AN ns.length cN) ns n8 [.int .i64 n8] (fun _ => True) (fun _ => False) (by rfl) (by rfl) rfl (fun _ hk => hk.elim) (fun _ _ => trivial) HJ3.out.row HJ3.out.bel HJ3.out.bel.size (by have := HNK.out; omega) ?_; intro v1 w4 hr4 hb4 hg4 hat4; obtain ⟨ns2, hns2⟩ : ∃ q, ns ++ [n8] = q := ⟨_, rfl⟩; rw [hns2] at hr4; have HNS := Aside0.mk hns2; clear hns2; obtain ⟨A4, c4, rfl⟩ := Kd.R_slice hr4; have HJ4 := Aside0.mk (HJ3.out.put hr4 hg4 hb4); obtain ⟨r0, r1, r2, s0, s1, s2⟩ := cells3 (blk_grown HJ3.out.obj hg4 (Kd.R_ne HJ3.out.row HJ3.out.obj (by decide))); clear hat4 hr4 hb4 hg4))
        all_goals
          go_wp2
          refine ⟨⟨k + 1, _, ns2, l2, b2, by go_num, by omega, ⟨by rw [← HNS.out, List.length_append, HNK.out]; rfl⟩, HJ4, ⟨by rw [← HNS.out, List.append_assoc]; exact HE2.out⟩⟩, by simp [intOf]; omega⟩
      · have hkk : k = c1 := by omega
        subst hkk
        have hEE := HE.out
        rw [Nat.sub_self, enl] at hEE
        simp only [List.append_nil] at hEE
        have hnl : enl k l1 b1 = (ns, l, b) := Prod.ext hEE.1.symm hEE.2.symm
        obtain ⟨c2, hc2⟩ : ∃ x, r4 l b = x := ⟨_, rfl⟩
        obtain ⟨l2, hl2⟩ : ∃ x, (rk l b 4).2.1 = x := ⟨_, rfl⟩
        obtain ⟨b2, hb2⟩ : ∃ x, (rk l b 4).2.2 = x := ⟨_, rfl⟩
        have HR3 : Aside0 (refBody p = (if 1024 < c2 then (true, [], [])
            else
              let T := etl c2 l2 b2
              (T.2.2 || decide (0 < T.2.1.length), ns, T.1))) := ⟨by rw [HR2.out, hnl]; simp only; rw [hc2, hl2, hb2]⟩
        have HU2 : Aside0 (∀ (w1 : World), RS 78 wa w1 g l b → Calls Try.prog 35 #[.pointer (some ⟨g, 0, none⟩)] w1 fun e w' => e = .returned (.int .i64 (c2 : Int)) ∧ RS 78 wa w' g l2 b2 ∧ KeepBut w1 w' g none) := ⟨fun w1 h => by
          have h9 := four_any wa w1 g l b h HJ.out.b8
          rw [hc2, hl2, hb2] at h9
          exact h9⟩
        have HBB : Aside0 (B8 l2) := ⟨hl2 ▸ rk_B8 HJ.out.b8 b 4⟩
        clear hc2 hl2 hb2 hnl hEE HE HR2
        go_wp2_with fail
        refine (HU2.out _ HJ.out.rd).mono ?_
        rintro e_ w3 ⟨rfl, hS3, hK3⟩
        have HL2 := Aside0.mk (HJ.out.step hS3 HBB.out hK3).two
        clear hS3 hK3 HU2
        by_cases h1024 : 1024 < c2
        · have hres := res17 hwa HL2.out.bel
          have HRES := Aside0.mk hres.1
          have HBW := Aside0.mk hres.2
          obtain ⟨z0, z1, z2, zf0, zf1, zf2⟩ := cells3 hres.1
          have HDB : Aside0 (refBody p = (true, [], [])) := ⟨by rw [HR3.out, if_pos h1024]⟩
          clear hres HR3
          go_wp2_with fail
          have h3 := three HRES.out (.int .i64 0) (.slice none 0 0) (.slice none 0 0)
          have hb3 : Below w.heap.size w (((w3.setCell ⟨w.heap.size, 0, none⟩ (.int .i64 0)).setCell ⟨w.heap.size, 1, none⟩ (.slice none 0 0)).setCell ⟨w.heap.size, 2, none⟩ (.slice none 0 0)) := below_set (below_set (below_set HBW.out (Nat.le_refl _)) (Nat.le_refl _)) (Nat.le_refl _)
          generalize (((w3.setCell ⟨w.heap.size, 0, none⟩ (.int .i64 0)).setCell ⟨w.heap.size, 1, none⟩ (.slice none 0 0)).setCell ⟨w.heap.size, 2, none⟩ (.slice none 0 0)) = wz at *
          obtain ⟨g0, g1, g2, _, _, _⟩ := cells3 h3
          exact bodyPost_ret (v := .tuple #[.agg #[.int .i64 0, .slice none 0 0, .slice none 0 0], .int .i64 0, .int .i64 3]) (by simp [results, Try.results17, go_sem, g0, g1, g2]) rfl (by unfold refPost; rw [HDB.out]; exact ⟨rfl, hb3⟩)
        · have HR4 : Aside0 (refBody p = (let T := etl c2 l2 b2
              (T.2.2 || decide (0 < T.2.1.length), ns, T.1))) := ⟨by rw [HR3.out, if_neg h1024]⟩
          clear HR3
          go_wp2_with fail
          go_loopw [13] (fun v wr => ∃ (k : Nat) (vT : Value) (ts : List ByteArray) (l' : List Int) (b' : Bool), v = .int .i64 (k : Int) ∧ k ≤ c2 ∧ Aside0 (ts.length = k) ∧ Aside0 (K2 wa wr g gO kind vN vT ns ts l' b') ∧ Aside0 (ts ++ (etl (c2 - k) l' b').1 = (etl c2 l2 b2).1 ∧ (etl (c2 - k) l' b').2 = (etl c2 l2 b2).2)) (fun v _ => c2 - (intOf v).toNat)
          case atStart => exact ⟨0, .slice none 0 0, [], l2, b2, rfl, Nat.zero_le _, ⟨rfl⟩, HL2, ⟨by simp⟩⟩
          case round =>
            obtain ⟨k2, vT, ts, l', b', rfl, hk2, HNK2, HJ2, HE4⟩ := hrel
            by_cases hlt2 : k2 < c2
            · have hHE := HE4.out
              rw [show c2 - k2 = (c2 - (k2 + 1)) + 1 from by omega, etl] at hHE
              obtain ⟨n4, hn4⟩ : ∃ x, r4 l' b' = x := ⟨_, rfl⟩
              obtain ⟨l3, hl3⟩ : ∃ x, (rk l' b' 4).2.1 = x := ⟨_, rfl⟩
              obtain ⟨b3, hb3⟩ : ∃ x, (rk l' b' 4).2.2 = x := ⟨_, rfl⟩
              unfold rt at hHE
              rw [hn4, hl3, hb3] at hHE
              have HN : Aside0 (∀ (w1 : World), RS 78 wa w1 g l' b' → Calls Try.prog 35 #[.pointer (some ⟨g, 0, none⟩)] w1 fun e w' => e = .returned (.int .i64 (n4 : Int)) ∧ RS 78 wa w' g l3 b3 ∧ KeepBut w1 w' g none) := ⟨fun w1 h => by
                have h9 := four_any wa w1 g l' b' h HJ2.out.b8
                rw [hn4, hl3, hb3] at h9
                exact h9⟩
              have HB3 : Aside0 (B8 l3) := ⟨hl3 ▸ rk_B8 HJ2.out.b8 b' 4⟩
              have HB4 : Aside0 (B8 (rk l3 b3 n4).2.1) := ⟨rk_B8 HB3.out b3 n4⟩
              have HNR := Aside0.mk (fun (w1 : World) (h : RS 78 wa w1 g l3 b3) => raw_any wa w1 g n4 l3 b3 h)
              clear hn4 hl3 hb3 HE4
              simp only at hHE HNR
              obtain ⟨o4, ho4⟩ : ∃ x, (rk l3 b3 n4).1 = x := ⟨_, rfl⟩
              obtain ⟨l4, hl4⟩ : ∃ x, (rk l3 b3 n4).2.1 = x := ⟨_, rfl⟩
              obtain ⟨b4, hb4⟩ : ∃ x, (rk l3 b3 n4).2.2 = x := ⟨_, rfl⟩
              rw [ho4, hl4, hb4] at HNR
              rw [show (rk l3 b3 n4).2 = (l4, b4) from Prod.ext hl4 hb4] at hHE
              rw [ho4] at hHE
              rw [hl4] at HB4
              simp only at hHE
              have HE5 := Aside0.mk hHE
              clear hHE ho4 hl4 hb4
              obtain ⟨AT, cT, rfl⟩ := Kd.R_slice HJ2.out.row
              obtain ⟨x0, x1, x2, y0, y1, y2⟩ := cells3 HJ2.out.obj
              go_wp2
              go_region_law (first | (go_simp; go_at_call 35; (with_reducible refine (HN.out _ ?hS).mono ?_); (case hS => exact HJ2.out.drew.rd); rintro e w3 ⟨rfl, hS3, hK3⟩; have HJ3 := Aside0.mk (HJ2.out.drew.step hS3 HB3.out hK3); obtain ⟨p0, p1, p2, q0, q1, q2⟩ := cells3 HJ3.out.obj; clear hS3 hK3 HN) | (go_simp; go_at_call 37; (with_reducible refine (HNR.out _ ?hS2).mono ?_); (case hS2 => exact HJ3.out.rd); rintro e w5 ⟨A5, c5, rfl, hc5, hC5, hS5, hK5⟩; have HJ5 := Aside0.mk (HJ3.out.step hS5 HB4.out hK5); have hcv := Kd.C_string (P := Try.prog) (src := 27) (dst := 9) (e := 5) (c := c5) Try.underlying27 Try.underlying5 Try.underlying9 hC5; obtain ⟨p0b, p1b, p2b, q0b, q1b, q2b⟩ := cells3 HJ5.out.obj; have p1a : ∀ o : Obj, (w5.alloc o).cell? ⟨gO, 2, none⟩ = some (.slice AT ts.length cT) := (fun o => (cells3 (blk_alloc HJ5.out.obj o)).2.2.1); clear hS5 hK5 hC5 hc5 HNR) | (refine Kd.R_append_step Kd.string (w0 := wa) wa.heap.size (by rfl) (.tmp 58) (.tmp 64) 23 9 (.string ⟨#[]⟩) 16 (by rfl) Try.underlying23 info9 rfl (by decide) (by omega) (.slice AT ts.length cT) ts (strOfNums o4) [.string (strOfNums o4)] (fun _ => True) (fun _ => False) (by rfl) (by rfl) rfl (fun _ hk => hk.elim) (fun _ _ => trivial) HJ5.out.row HJ5.out.bel HJ5.out.bel.size (by have := HNK2.out; omega) ?_; intro v1 w4 hr4 hb4 hg4 hat4; obtain ⟨ts2, hns2⟩ : ∃ q, ts ++ [strOfNums o4] = q := ⟨_, rfl⟩; rw [hns2] at hr4; have HNS := Aside0.mk hns2; clear hns2; obtain ⟨A4, c4, rfl⟩ := Kd.R_slice hr4; have HJ4 := Aside0.mk (HJ5.out.put hr4 hg4 hb4); obtain ⟨r0, r1, r2, s0, s1, s2⟩ := cells3 (blk_grown HJ5.out.obj hg4 (Kd.R_ne HJ5.out.row HJ5.out.obj (by decide))); clear hat4 hr4 hb4 hg4))
              all_goals
                go_wp2
                refine ⟨⟨k2 + 1, _, ts2, l4, b4, by go_num, by omega, ⟨by rw [← HNS.out, List.length_append, HNK2.out]; rfl⟩, HJ4, ⟨by rw [← HNS.out, List.append_assoc]; exact HE5.out⟩⟩, by simp [intOf]; omega⟩
            · have hkk : k2 = c2 := by omega
              subst hkk
              have hEE := HE4.out
              rw [Nat.sub_self, etl] at hEE
              simp only [List.append_nil] at hEE
              have htl : etl k2 l2 b2 = (ts, l', b') := Prod.ext hEE.1.symm hEE.2.symm
              have HDB : Aside0 (refBody p = (b' || decide (0 < l'.length), ns, ts)) := ⟨by rw [HR4.out, htl]⟩
              clear hEE HE4 htl HR4
              have hres := res17 hwa HJ2.out.bel
              have HRES := Aside0.mk hres.1
              have HBW := Aside0.mk hres.2
              obtain ⟨z0, z1, z2, zf0, zf1, zf2⟩ := cells3 hres.1
              obtain ⟨AR, cR, hI, hcR, hCR, hgR, hBR⟩ := HJ2.out.rd
              have hr0 := hI.c0
              have hr1 := hI.c1
              obtain ⟨x0, x1, x2, y0, y1, y2⟩ := cells3 HJ2.out.obj
              clear hI hcR hCR hgR hBR hres
              have hwl : w.heap.size ≤ wa.heap.size := by rw [← hwa]; simp
              have hRN := Kd.R_lower HJ2.out.rowN hwl
              have hRT := Kd.R_lower HJ2.out.row hwl
              have HRN := Aside0.mk hRN
              have HRT := Aside0.mk hRT
              clear hRN hRT
              cases b' with
              | true =>
                simp only [Bool.true_or] at HDB
                go_wp2_with fail
                have h3 := three HRES.out (.int .i64 0) (.slice none 0 0) (.slice none 0 0)
                have hb3 : Below w.heap.size w (((wr.setCell ⟨w.heap.size, 0, none⟩ (.int .i64 0)).setCell ⟨w.heap.size, 1, none⟩ (.slice none 0 0)).setCell ⟨w.heap.size, 2, none⟩ (.slice none 0 0)) := below_set (below_set (below_set HBW.out (Nat.le_refl _)) (Nat.le_refl _)) (Nat.le_refl _)
                generalize (((wr.setCell ⟨w.heap.size, 0, none⟩ (.int .i64 0)).setCell ⟨w.heap.size, 1, none⟩ (.slice none 0 0)).setCell ⟨w.heap.size, 2, none⟩ (.slice none 0 0)) = wz at *
                obtain ⟨g0, g1, g2, _, _, _⟩ := cells3 h3
                exact bodyPost_ret (v := .tuple #[.agg #[.int .i64 0, .slice none 0 0, .slice none 0 0], .int .i64 0, .int .i64 3]) (by simp [results, Try.results17, go_sem, g0, g1, g2]) rfl (by unfold refPost; rw [HDB.out]; exact ⟨rfl, hb3⟩)
              | false =>
                simp only [Bool.false_or] at HDB
                by_cases hl9 : 0 < l'.length
                · rw [decide_eq_true hl9] at HDB
                  go_wp2_with fail
                  have h3 := three HRES.out (.int .i64 0) (.slice none 0 0) (.slice none 0 0)
                  have hb3 : Below w.heap.size w (((wr.setCell ⟨w.heap.size, 0, none⟩ (.int .i64 0)).setCell ⟨w.heap.size, 1, none⟩ (.slice none 0 0)).setCell ⟨w.heap.size, 2, none⟩ (.slice none 0 0)) := below_set (below_set (below_set HBW.out (Nat.le_refl _)) (Nat.le_refl _)) (Nat.le_refl _)
                  generalize (((wr.setCell ⟨w.heap.size, 0, none⟩ (.int .i64 0)).setCell ⟨w.heap.size, 1, none⟩ (.slice none 0 0)).setCell ⟨w.heap.size, 2, none⟩ (.slice none 0 0)) = wz at *
                  obtain ⟨g0, g1, g2, _, _, _⟩ := cells3 h3
                  exact bodyPost_ret (v := .tuple #[.agg #[.int .i64 0, .slice none 0 0, .slice none 0 0], .int .i64 0, .int .i64 3]) (by simp [results, Try.results17, go_sem, g0, g1, g2]) rfl (by unfold refPost; rw [HDB.out]; exact ⟨rfl, hb3⟩)
                · rw [decide_eq_false hl9] at HDB
                  obtain ⟨AN, cN, rfl⟩ := Kd.R_slice HRN.out
                  obtain ⟨AT, cT, rfl⟩ := Kd.R_slice HRT.out
                  go_wp2_with fail
                  have h3 := three HRES.out (.int .i64 kind) (.slice AN ns.length cN) (.slice AT ts.length cT)
                  have hb3 : Below w.heap.size w (((wr.setCell ⟨w.heap.size, 0, none⟩ (.int .i64 kind)).setCell ⟨w.heap.size, 1, none⟩ (.slice AN ns.length cN)).setCell ⟨w.heap.size, 2, none⟩ (.slice AT ts.length cT)) := below_set (below_set (below_set HBW.out (Nat.le_refl _)) (Nat.le_refl _)) (Nat.le_refl _)
                  have hn3 : (Kd.int .i64).R 3 (((wr.setCell ⟨w.heap.size, 0, none⟩ (.int .i64 kind)).setCell ⟨w.heap.size, 1, none⟩ (.slice AN ns.length cN)).setCell ⟨w.heap.size, 2, none⟩ (.slice AT ts.length cT)) w.heap.size (fun _ => True) (.slice AN ns.length cN) ns := Kd.R_set (Kd.R_set (Kd.R_set HRN.out HRES.out (by decide) 0 _) (blk_set HRES.out 0 _) (by decide) 1 _) (blk_set (blk_set HRES.out 0 _) 1 _) (by decide) 2 _
                  have ht3 : Kd.string.R 9 (((wr.setCell ⟨w.heap.size, 0, none⟩ (.int .i64 kind)).setCell ⟨w.heap.size, 1, none⟩ (.slice AN ns.length cN)).setCell ⟨w.heap.size, 2, none⟩ (.slice AT ts.length cT)) w.heap.size (fun _ => True) (.slice AT ts.length cT) ts := Kd.R_set (Kd.R_set (Kd.R_set HRT.out HRES.out (by decide) 0 _) (blk_set HRES.out 0 _) (by decide) 1 _) (blk_set (blk_set HRES.out 0 _) 1 _) (by decide) 2 _
                  generalize (((wr.setCell ⟨w.heap.size, 0, none⟩ (.int .i64 kind)).setCell ⟨w.heap.size, 1, none⟩ (.slice AN ns.length cN)).setCell ⟨w.heap.size, 2, none⟩ (.slice AT ts.length cT)) = wz at *
                  obtain ⟨g0, g1, g2, _, _, _⟩ := cells3 h3
                  exact bodyPost_ret (v := .tuple #[.agg #[.int .i64 kind, .slice AN ns.length cN, .slice AT ts.length cT], .int .i64 n, .int .i64 0]) (by simp [results, Try.results17, go_sem, g0, g1, g2]) rfl (by unfold refPost; rw [HDB.out]; exact ⟨_, _, rfl, hn3, ht3, hb3⟩)
end Go.Proofs.Ytoblfdloakkmmaa.Rf
