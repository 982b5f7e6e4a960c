/- proto: Decode, the way that reads. Own work. -/
import Derived.Test.YtoblfdloakkmmaaRdH
import Derived.Deep.RegionLaw
import Derived.Lib.Hide
namespace Go.Proofs.Ytoblfdloakkmmaa.Rd
set_option linter.unusedVariables false
set_option linter.unusedSimpArgs false
open Go.RowKit Go.Proofs.Ytoblfdloakkmmaa.Mp Go.Proofs.Ytoblfdloakkmmaa.PL Go.Proofs.YtoblfdloakkmmaaW.PrintWords Go.Proofs.YtoblfdloakkmmaaW.PrintLast Go.Proofs.YtoblfdloakkmmaaW.PrintMore

/-- what an op's body says: whether it is refused, its numbers, its texts -/
def decBody (p : List Int) : Bool × List Int × List ByteArray :=
  let u1 := up p false 64
  let N := nl u1.1 u1.2.1 u1.2.2
  let u2 := up N.2.1 N.2.2 1024
  let T := tl u2.1 u2.2.1 u2.2.2
  (T.2.2 || decide (0 < T.2.1.length), N.1, T.1)
def decPost (w : World) (kind n : Int) (p : List Int) (e_ : Ending) (w' : World) : Prop :=
      if (decBody p).1 = true then e_ = .returned (.tuple #[.agg #[.int .i64 0, .slice none 0 0, .slice none 0 0], .int .i64 0, .int .i64 3]) ∧ Below w.heap.size w w'
      else ∃ vN vT, e_ = .returned (.tuple #[.agg #[.int .i64 kind, vN, vT], .int .i64 n, .int .i64 0]) ∧ (Kd.int .i64).R 3 w' w.heap.size (fun _ => True) vN (decBody p).2.1 ∧ Kd.string.R 9 w' w.heap.size (fun _ => True) vT (decBody p).2.2 ∧ Below w.heap.size w w'
set_option maxHeartbeats 1000000 in
theorem dec_ok (w : World) (A : Option Addr) (c : Nat) (l0 : List Int) (kind n : Int) (p : List Int) (hpb : B8 p)
    (HO : Calls Try.prog 29 #[.slice A l0.length c, .func (.func 30) #[] #[]] (w.alloc (.cells #[.int .i64 0, .slice none 0 0, .slice none 0 0] 26)) fun e_ w' => ∃ g, e_ = .returned (.tuple #[.int .i64 kind, .pointer (some ⟨g, 0, none⟩), .int .i64 n, .int .i64 0]) ∧ RS 73 (w.alloc (.cells #[.int .i64 0, .slice none 0 0, .slice none 0 0] 26)) w' g p false ∧ (w.alloc (.cells #[.int .i64 0, .slice none 0 0, .slice none 0 0] 26)).heap.size ≤ g ∧ g < w'.heap.size) :
    Calls Try.prog 15 #[.slice A l0.length c] w fun e_ w' =>
      decPost w kind n p e_ w' := by
  have HO' := Aside0.mk HO
  have HU := Aside0.mk (fun (w1 : World) (g : Nat) (h : RS 73 (w.alloc (.cells #[.int .i64 0, .slice none 0 0, .slice none 0 0] 26)) w1 g p false) => upTo_any _ w1 g 64 p false h hpb (by omega))
  have hub := (tk_B8 hpb false 4).2
  have hc64' : (up p false 64).1 ≤ 64 := by
    unfold up; simp only; split
    · omega
    · rename_i h9; simp at h9; omega
  obtain ⟨cnt, l1, b1, hu⟩ : ∃ a b c, up p false 64 = (a, b, c) := ⟨_, _, _, rfl⟩
  have hl1 : B8 l1 := by
    have h9 : (up p false 64).2.1 = l1 := by rw [hu]
    rw [← h9]; exact hub
  have HUP := Aside0.mk hu
  have hc64 : cnt ≤ 64 := by rw [hu] at hc64'; exact hc64'
  rw [hu] at HU
  clear HO hu hub hc64'
  simp only at HU
  have HU' : Aside0 (∀ (w1 : World) (g : Nat), RS 73 (w.alloc (.cells #[.int .i64 0, .slice none 0 0, .slice none 0 0] 26)) w1 g p false → Calls Try.prog 31 #[.pointer (some ⟨g, 0, none⟩), .int .i64 64] w1 fun e w' => e = .returned (.int .i64 (cnt : Int)) ∧ RS 73 (w.alloc (.cells #[.int .i64 0, .slice none 0 0, .slice none 0 0] 26)) w' g l1 b1 ∧ KeepBut w1 w' g none) := HU
  clear HU
  go_enter Try.func15, Try.ntmps15
  go_wp2_with fail
  refine HO'.out.mono ?_
  rintro e_ w1 ⟨g, rfl, hS, hg1, hg2⟩
  have HS := Aside0.mk hS
  have HG := Aside0.mk hg1
  clear hS hg1 HO'
  go_wp2_with fail
  have HJ0 : Aside0 (J1 (w.alloc (.cells #[.int .i64 0, .slice none 0 0, .slice none 0 0] 26)) (w1.alloc (.cells #[.int .i64 kind, .slice none 0 0, .slice none 0 0] 26)) g w1.heap.size kind (.slice none 0 0) [] p false) :=
    ⟨⟨heap_alloc_new w1 _, Kd.R_nil _ _ _ _ _, HS.out.alloc _, hpb, below_alloc (rs_below HS.out) _, (rs_below HS.out).size⟩⟩
  refine (HU'.out _ _ HJ0.out.rd).mono ?_
  rintro e_ w2 ⟨rfl, hS2, hK2⟩
  have HJ1 := Aside0.mk (HJ0.out.step hS2 hl1 hK2)
  clear HJ0 hS2 hK2 HU' HS
  generalize w1.heap.size = gO at *
  generalize hwa : w.alloc (.cells #[.int .i64 0, .slice none 0 0, .slice none 0 0] 26) = wa at *
  go_wp2_with fail
  go_loopw [25] (fun v wr => ∃ (k : Nat) (vN : Value) (ns l : List Int) (b : Bool), v = .int .i64 (k : Int) ∧ k ≤ cnt ∧ Aside0 (ns.length = k) ∧ Aside0 (J1 wa wr g gO kind vN ns l b) ∧ Aside0 (ns ++ (nl (cnt - k) l b).1 = (nl cnt l1 b1).1 ∧ (nl (cnt - k) l b).2 = (nl cnt l1 b1).2)) (fun v _ => cnt - (intOf v).toNat)
  case atStart => exact ⟨0, .slice none 0 0, [], l1, b1, rfl, Nat.zero_le _, ⟨rfl⟩, HJ1, ⟨by simp⟩⟩
  case round =>
    obtain ⟨k, vN, ns, l, b, rfl, hk, HNK, HJ, HE⟩ := hrel
    by_cases hlt : k < cnt
    · have HN := Aside0.mk (show ∀ (w1 : World), RS 73 wa w1 g l b → Calls Try.prog 32 #[.pointer (some ⟨g, 0, none⟩), .int .i64 8] w1 fun e w' => e = .returned (.int .u64 ((V (tk l b 8).1 : Nat) : Int)) ∧ RS 73 wa w' g (tk l b 8).2.1 (tk l b 8).2.2 ∧ KeepBut w1 w' g none from fun w1 h => number_any wa w1 g 8 l b h (by omega) HJ.out.b8)
      have HB2 := Aside0.mk (tk_B8 HJ.out.b8 b 8).2
      have hHE := HE.out
      rw [show cnt - k = (cnt - (k + 1)) + 1 from by omega, nl] at hHE
      have HE2 := Aside0.mk hHE
      clear hHE HE
      obtain ⟨n8, hn8⟩ : ∃ x, V (tk l b 8).1 = x := ⟨_, rfl⟩
      obtain ⟨l2, hl2⟩ : ∃ x, (tk l b 8).2.1 = x := ⟨_, rfl⟩
      obtain ⟨b2, hb2⟩ : ∃ x, (tk l b 8).2.2 = x := ⟨_, rfl⟩
      rw [hn8, hl2, hb2] at HN
      rw [hn8, hl2, hb2] at HE2
      rw [hl2] at HB2
      clear hn8 hl2 hb2
      obtain ⟨AN, cN, rfl⟩ := Kd.R_slice HJ.out.row
      obtain ⟨x0, x1, x2, y0, y1, y2⟩ := cells3 HJ.out.obj
      go_wp2
      go_region_law (first | (go_simp; go_at_call 32; (with_reducible refine (HN.out _ ?hS).mono ?_); (case hS => exact HJ.out.drew.rd); rintro e w3 ⟨rfl, hS3, hK3⟩; have HJ3 := Aside0.mk (HJ.out.drew.step hS3 HB2.out hK3); obtain ⟨p0, p1, p2, q0, q1, q2⟩ := cells3 HJ3.out.obj; have p1a : ∀ o : Obj, (w3.alloc o).cell? ⟨gO, 1, none⟩ = some (.slice AN ns.length cN) := (fun o => (cells3 (blk_alloc HJ3.out.obj o)).2.1); clear hS3 hK3 HN) | (refine Kd.R_append_step (Kd.int .i64) (w0 := wa) wa.heap.size (by rfl) (.tmp 28) (.tmp 32) 22 3 (.int .i64 0) 8 (by rfl) Try.underlying22 info3 rfl (by decide) (by omega) (.slice AN ns.length cN) ns (IntKind.i64.wrap (n8 : Int)) [.int .i64 (IntKind.i64.wrap (n8 : Int))] (fun _ => True) (fun _ => False) (by rfl) (by rfl) rfl (fun _ hk => hk.elim) (fun _ _ => trivial) HJ3.out.row HJ3.out.bel HJ3.out.bel.size (by have := HNK.out; omega) ?_; intro v1 w4 hr4 hb4 hg4 hat4; obtain ⟨ns2, hns2⟩ : ∃ q, ns ++ [IntKind.i64.wrap (n8 : Int)] = q := ⟨_, rfl⟩; rw [hns2] at hr4; have HNS := Aside0.mk hns2; clear hns2; obtain ⟨A4, c4, rfl⟩ := Kd.R_slice hr4; have HJ4 := Aside0.mk (HJ3.out.put hr4 hg4 hb4); obtain ⟨r0, r1, r2, s0, s1, s2⟩ := cells3 (blk_grown HJ3.out.obj hg4 (Kd.R_ne HJ3.out.row HJ3.out.obj (by decide))); clear hat4 hr4 hb4 hg4))
      all_goals
        go_wp2
        refine ⟨⟨k + 1, _, ns2, l2, b2, by go_num, by omega, ⟨by rw [← HNS.out, List.length_append, HNK.out]; rfl⟩, HJ4, ⟨by rw [← HNS.out, List.append_assoc]; exact HE2.out⟩⟩, by simp [intOf]; omega⟩
    · have hkk : k = cnt := by omega
      subst hkk
      have hEE := HE.out
      rw [Nat.sub_self, nl] at hEE
      simp only [List.append_nil] at hEE
      have HE3 := Aside0.mk hEE
      clear hEE HE
      have hu2 := up_le l b 1024
      have hub2 := (tk_B8 HJ.out.b8 b 4).2
      have HU2 := Aside0.mk (show ∀ (w1 : World), RS 73 wa w1 g l b → Calls Try.prog 31 #[.pointer (some ⟨g, 0, none⟩), .int .i64 1024] w1 fun e w' => e = .returned (.int .i64 (((up l b 1024).1 : Nat) : Int)) ∧ RS 73 wa w' g (up l b 1024).2.1 (up l b 1024).2.2 ∧ KeepBut w1 w' g none from fun w1 h => upTo_any wa w1 g 1024 l b h HJ.out.b8 (by omega))
      have hub3 : B8 (up l b 1024).2.1 := hub2
      obtain ⟨c2, l2, b2, hu⟩ : ∃ x y z, up l b 1024 = (x, y, z) := ⟨_, _, _, rfl⟩
      rw [hu] at HU2 hu2 hub3
      simp only at HU2 hu2 hub3
      have HUE := Aside0.mk hu
      clear hu hub2
      go_wp2_with fail
      refine (HU2.out _ HJ.out.rd).mono ?_
      rintro e_ w3 ⟨rfl, hS3, hK3⟩
      have HL1 := Aside0.mk (HJ.out.step hS3 hub3 hK3).two
      clear hS3 hK3 HU2
      go_wp2_with fail
      go_loopw [38] (fun v wr => ∃ (k : Nat) (vT : Value) (ts : List ByteArray) (l' : List Int) (b' : Bool), v = .int .i64 (k : Int) ∧ k ≤ c2 ∧ Aside0 (ts.length = k) ∧ Aside0 (J2 wa wr g gO kind vN vT ns ts l' b') ∧ Aside0 (ts ++ (tl (c2 - k) l' b').1 = (tl c2 l2 b2).1 ∧ (tl (c2 - k) l' b').2 = (tl c2 l2 b2).2)) (fun v _ => c2 - (intOf v).toNat)
      case atStart => exact ⟨0, .slice none 0 0, [], l2, b2, rfl, Nat.zero_le _, ⟨rfl⟩, HL1, ⟨by simp⟩⟩
      case round =>
        obtain ⟨k2, vT, ts, l', b', rfl, hk2, HNK2, HJ2, HE4⟩ := hrel
        by_cases hlt2 : k2 < c2
        · have HN := Aside0.mk (show ∀ (w1 : World), RS 73 wa w1 g l' b' → Calls Try.prog 33 #[.pointer (some ⟨g, 0, none⟩)] w1 fun e w' => e = .returned (.string (tx l' b').1) ∧ RS 73 wa w' g (tx l' b').2.1 (tx l' b').2.2 ∧ KeepBut w1 w' g none from fun w1 h => text_any wa w1 g l' b' h HJ2.out.b8)
          have HB2 := Aside0.mk (tx_B8 HJ2.out.b8 b')
          have hHE := HE4.out
          rw [show c2 - k2 = (c2 - (k2 + 1)) + 1 from by omega, tl] at hHE
          have HE5 := Aside0.mk hHE
          clear hHE HE4
          obtain ⟨t8, ht8⟩ : ∃ x, (tx l' b').1 = x := ⟨_, rfl⟩
          obtain ⟨l4, hl4⟩ : ∃ x, (tx l' b').2.1 = x := ⟨_, rfl⟩
          obtain ⟨b4, hb4⟩ : ∃ x, (tx l' b').2.2 = x := ⟨_, rfl⟩
          rw [ht8, hl4, hb4] at HN
          rw [ht8, hl4, hb4] at HE5
          rw [hl4] at HB2
          clear ht8 hl4 hb4
          obtain ⟨AT, cT, rfl⟩ := Kd.R_slice HJ2.out.row
          obtain ⟨x0, x1, x2, y0, y1, y2⟩ := cells3 HJ2.out.obj
          go_wp2
          go_region_law (first | (go_simp; go_at_call 33; (with_reducible refine (HN.out _ ?hS).mono ?_); (case hS => exact HJ2.out.drew.rd); rintro e w3 ⟨rfl, hS3, hK3⟩; have HJ3 := Aside0.mk (HJ2.out.drew.step hS3 HB2.out hK3); obtain ⟨p0, p1, p2, q0, q1, q2⟩ := cells3 HJ3.out.obj; have p1a : ∀ o : Obj, (w3.alloc o).cell? ⟨gO, 2, none⟩ = some (.slice AT ts.length cT) := (fun o => (cells3 (blk_alloc HJ3.out.obj o)).2.2.1); clear hS3 hK3 HN) | (refine Kd.R_append_step Kd.string (w0 := wa) wa.heap.size (by rfl) (.tmp 41) (.tmp 44) 23 9 (.string ⟨#[]⟩) 16 (by rfl) Try.underlying23 info9 rfl (by decide) (by omega) (.slice AT ts.length cT) ts t8 [.string t8] (fun _ => True) (fun _ => False) (by rfl) (by rfl) rfl (fun _ hk => hk.elim) (fun _ _ => trivial) HJ3.out.row HJ3.out.bel HJ3.out.bel.size (by have := HNK2.out; omega) ?_; intro v1 w4 hr4 hb4 hg4 hat4; obtain ⟨ts2, hns2⟩ : ∃ q, ts ++ [t8] = q := ⟨_, rfl⟩; rw [hns2] at hr4; have HNS := Aside0.mk hns2; clear hns2; obtain ⟨A4, c4, rfl⟩ := Kd.R_slice hr4; have HJ4 := Aside0.mk (HJ3.out.put hr4 hg4 hb4); obtain ⟨r0, r1, r2, s0, s1, s2⟩ := cells3 (blk_grown HJ3.out.obj hg4 (Kd.R_ne HJ3.out.row HJ3.out.obj (by decide))); clear hat4 hr4 hb4 hg4))
          all_goals
            go_wp2
            refine ⟨⟨k2 + 1, _, ts2, l4, b4, by go_num, by omega, ⟨by rw [← HNS.out, List.length_append, HNK2.out]; rfl⟩, HJ4, ⟨by rw [← HNS.out, List.append_assoc]; exact HE5.out⟩⟩, by simp [intOf]; omega⟩
        · have hkk : k2 = c2 := by omega
          subst hkk
          have hEE := HE4.out
          rw [Nat.sub_self, tl] at hEE
          simp only [List.append_nil] at hEE
          have HE6 := Aside0.mk hEE
          clear hEE HE4
          have hres0 : wr.heap[w.heap.size]? = some (.cells #[.int .i64 0, .slice none 0 0, .slice none 0 0] 26 (0, 0)) := by
            have h1 : wa.heap[w.heap.size]? = some (.cells #[.int .i64 0, .slice none 0 0, .slice none 0 0] 26 (0, 0)) := by rw [← hwa]; exact heap_alloc_new w _
            have h2 : w.heap.size < wa.heap.size := by rw [← hwa]; simp
            exact (HJ2.out.bel.block w.heap.size h2).trans h1
          have HRES := Aside0.mk hres0
          obtain ⟨z0, z1, z2, zf0, zf1, zf2⟩ := cells3 hres0
          obtain ⟨AR, cR, hI, hcR, hCR, hgR, hBR⟩ := HJ2.out.rd
          have hr0 := hI.c0
          have hr1 := hI.c1
          obtain ⟨x0, x1, x2, y0, y1, y2⟩ := cells3 HJ2.out.obj
          clear hI hcR hCR hgR hBR hres0
          have hnl : nl k l1 b1 = (ns, l, b) := Prod.ext HE3.out.1.symm HE3.out.2.symm
          have htl : tl k2 l2 b2 = (ts, l', b') := Prod.ext HE6.out.1.symm HE6.out.2.symm
          have hdb : decBody p = (b' || decide (0 < l'.length), ns, ts) := by
            unfold decBody
            rw [HUP.out]
            simp only
            rw [hnl]
            simp only
            rw [HUE.out]
            simp only
            rw [htl]
          have HDB := Aside0.mk hdb
          have hbw : Below w.heap.size w wr := by
            have h1 : Below w.heap.size w wa := by rw [← hwa]; exact below_alloc (Below.refl _ w) _
            exact below_then h1 (by rw [← hwa]; simp) HJ2.out.bel
          have HBW := Aside0.mk hbw
          have hwl : w.heap.size ≤ wa.heap.size := by rw [← hwa]; simp
          have hRN := Kd.R_lower HJ2.out.rowN hwl
          have hRT := Kd.R_lower HJ2.out.row hwl
          have HRN := Aside0.mk hRN
          have HRT := Aside0.mk hRT
          clear hnl htl hdb hbw hRN hRT HE6 HE3
          cases b' with
          | true =>
            simp only [Bool.true_or] at HDB
            go_wp2_with fail
            have h3 := three HRES.out (.int .i64 0) (.slice none 0 0) (.slice none 0 0)
            have hb3 : Below w.heap.size w (((wr.setCell ⟨w.heap.size, 0, none⟩ (.int .i64 0)).setCell ⟨w.heap.size, 1, none⟩ (.slice none 0 0)).setCell ⟨w.heap.size, 2, none⟩ (.slice none 0 0)) := below_set (below_set (below_set HBW.out (Nat.le_refl _)) (Nat.le_refl _)) (Nat.le_refl _)
            generalize (((wr.setCell ⟨w.heap.size, 0, none⟩ (.int .i64 0)).setCell ⟨w.heap.size, 1, none⟩ (.slice none 0 0)).setCell ⟨w.heap.size, 2, none⟩ (.slice none 0 0)) = wz at *
            obtain ⟨g0, g1, g2, _, _, _⟩ := cells3 h3
            exact bodyPost_ret (v := .tuple #[.agg #[.int .i64 0, .slice none 0 0, .slice none 0 0], .int .i64 0, .int .i64 3]) (by simp [results, Try.results15, go_sem, g0, g1, g2]) rfl (by unfold decPost; rw [HDB.out]; exact ⟨rfl, hb3⟩)
          | false =>
            simp only [Bool.false_or] at HDB
            by_cases hl9 : 0 < l'.length
            · rw [decide_eq_true hl9] at HDB
              go_wp2_with fail
              have h3 := three HRES.out (.int .i64 0) (.slice none 0 0) (.slice none 0 0)
              have hb3 : Below w.heap.size w (((wr.setCell ⟨w.heap.size, 0, none⟩ (.int .i64 0)).setCell ⟨w.heap.size, 1, none⟩ (.slice none 0 0)).setCell ⟨w.heap.size, 2, none⟩ (.slice none 0 0)) := below_set (below_set (below_set HBW.out (Nat.le_refl _)) (Nat.le_refl _)) (Nat.le_refl _)
              generalize (((wr.setCell ⟨w.heap.size, 0, none⟩ (.int .i64 0)).setCell ⟨w.heap.size, 1, none⟩ (.slice none 0 0)).setCell ⟨w.heap.size, 2, none⟩ (.slice none 0 0)) = wz at *
              obtain ⟨g0, g1, g2, _, _, _⟩ := cells3 h3
              exact bodyPost_ret (v := .tuple #[.agg #[.int .i64 0, .slice none 0 0, .slice none 0 0], .int .i64 0, .int .i64 3]) (by simp [results, Try.results15, go_sem, g0, g1, g2]) rfl (by unfold decPost; rw [HDB.out]; exact ⟨rfl, hb3⟩)
            · rw [decide_eq_false hl9] at HDB
              obtain ⟨AN, cN, rfl⟩ := Kd.R_slice HRN.out
              obtain ⟨AT, cT, rfl⟩ := Kd.R_slice HRT.out
              go_wp2_with fail
              have h3 := three HRES.out (.int .i64 kind) (.slice AN ns.length cN) (.slice AT ts.length cT)
              have hb3 : Below w.heap.size w (((wr.setCell ⟨w.heap.size, 0, none⟩ (.int .i64 kind)).setCell ⟨w.heap.size, 1, none⟩ (.slice AN ns.length cN)).setCell ⟨w.heap.size, 2, none⟩ (.slice AT ts.length cT)) := below_set (below_set (below_set HBW.out (Nat.le_refl _)) (Nat.le_refl _)) (Nat.le_refl _)
              have hn3 : (Kd.int .i64).R 3 (((wr.setCell ⟨w.heap.size, 0, none⟩ (.int .i64 kind)).setCell ⟨w.heap.size, 1, none⟩ (.slice AN ns.length cN)).setCell ⟨w.heap.size, 2, none⟩ (.slice AT ts.length cT)) w.heap.size (fun _ => True) (.slice AN ns.length cN) ns := Kd.R_set (Kd.R_set (Kd.R_set HRN.out HRES.out (by decide) 0 _) (blk_set HRES.out 0 _) (by decide) 1 _) (blk_set (blk_set HRES.out 0 _) 1 _) (by decide) 2 _
              have ht3 : Kd.string.R 9 (((wr.setCell ⟨w.heap.size, 0, none⟩ (.int .i64 kind)).setCell ⟨w.heap.size, 1, none⟩ (.slice AN ns.length cN)).setCell ⟨w.heap.size, 2, none⟩ (.slice AT ts.length cT)) w.heap.size (fun _ => True) (.slice AT ts.length cT) ts := Kd.R_set (Kd.R_set (Kd.R_set HRT.out HRES.out (by decide) 0 _) (blk_set HRES.out 0 _) (by decide) 1 _) (blk_set (blk_set HRES.out 0 _) 1 _) (by decide) 2 _
              generalize (((wr.setCell ⟨w.heap.size, 0, none⟩ (.int .i64 kind)).setCell ⟨w.heap.size, 1, none⟩ (.slice AN ns.length cN)).setCell ⟨w.heap.size, 2, none⟩ (.slice AT ts.length cT)) = wz at *
              obtain ⟨g0, g1, g2, _, _, _⟩ := cells3 h3
              exact bodyPost_ret (v := .tuple #[.agg #[.int .i64 kind, .slice AN ns.length cN, .slice AT ts.length cT], .int .i64 n, .int .i64 0]) (by simp [results, Try.results15, go_sem, g0, g1, g2]) rfl (by unfold decPost; rw [HDB.out]; exact ⟨_, _, rfl, hn3, ht3, hb3⟩)
end Go.Proofs.Ytoblfdloakkmmaa.Rd
