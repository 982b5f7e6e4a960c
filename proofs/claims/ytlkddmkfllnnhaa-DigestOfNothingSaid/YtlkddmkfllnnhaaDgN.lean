/- digest: the reference's Sum. Own work. -/
import Derived.Test.YtlkddmkfllnnhaaDgM
namespace Go.Proofs.Ytlkddmkfllnnhaa.Dg
set_option linter.unusedVariables false
set_option linter.unusedSimpArgs false
open Go.RowKit Go.Proofs.Ytlkddmkfllnnhaa.Md Go.Proofs.Ytlkddmkfllnnhaa.PL Go.Proofs.YtlkddmkfllnnhaaW.PrintWords Go.Proofs.YtlkddmkfllnnhaaW.PrintLast Go.Proofs.YtlkddmkfllnnhaaW.PrintMore

structure G0 (w wr : World) (g0 : Nat) (v : Value) (xs : List Int) : Prop where
  h : AB wr g0 25 (List.replicate 32 0)
  r : (Kd.int .u8).R 5 wr w.heap.size (fun _ => True) v xs
  b : Below w.heap.size w wr
theorem G0.step {w wr w1 : World} {g0 : Nat} {v v1 : Value} {xs xs' : List Int} (h : G0 w wr g0 v xs) (hg : wr.grownBy w1 v.ownBlock) (hr : (Kd.int .u8).R 5 w1 w.heap.size (fun _ => True) v1 xs') (hb : Below w.heap.size w w1) : G0 w w1 g0 v1 xs' :=
  ⟨blk_grown h.h hg (Kd.R_ne h.r h.h (by decide)), hr, hb⟩
theorem R_setRow {w : World} {base g t : Nat} {cells : Array Value} {v : Value} {xs : List Int} (h : (Kd.int .u8).R 5 w base (fun _ => True) v xs) (hb : w.heap[g]? = some (.cells cells t (0, 0))) (ht : t ≠ 5) (cs : Array Value) :
    (Kd.int .u8).R 5 (w.setRow g cs) base (fun _ => True) v xs :=
  Kd.R_mono (Kd.R_step (Kd.R_types h hb (fun q hq => by
    have : q = 5 := by simpa [Kd.int, Kd.scalar] using hq
    omega)) (fun k hk _ => setRow_other _ _ _ _ hk.2)) (fun _ _ => trivial)
structure F2 (w wr : World) (g0 gs gd : Nat) (ss hs : List Int) : Prop where
  r : AB wr g0 25 (List.replicate 32 0)
  s : Ar wr gs 49 ss
  h : AB wr gd 25 hs
  b : Below w.heap.size w wr
structure G1 (w wr : World) (g0 gs gk : Nat) (v : Value) (xs ss : List Int) : Prop where
  h : AB wr g0 25 (List.replicate 32 0)
  r : (Kd.int .u8).R 5 wr w.heap.size (fun _ => True) v xs
  s : Ar wr gs 49 ss
  k : wr.heap[gk]? = some (.cells KA 55 (0, 0))
  b : Below w.heap.size w wr

set_option maxHeartbeats 4000000 in
set_option maxRecDepth 100000 in
theorem refsum_any (A : Option Addr) (c : Nat) (l : List Int) (w : World) (hC : (Kd.int .u8).C w A l.length l) (hc : l.length ≤ c) (hl : l.length ≤ 140737488350000) (hb : B8 l) :
    Calls Try.prog 11 #[.slice A l.length c] w fun e w' => e = .returned (.agg (nums .u8 (sha l)).toArray) ∧ Below w.heap.size w w' := by
  have HC := Aside0.mk hC
  have HB8 := Aside0.mk hb
  clear hC hb
  go_enter Try.func11, Try.ntmps11
  go_wp2_with (first | ((with_reducible refine gate_dst (N := 11) rfl ?_); refine Kd.R_lit (Kd.int .u8) _ 5 ?hg (N := 11) ?hd (xs := ([] : List Int)) (inner := []) (ok := fun _ => True) (okp := fun _ => True) ?hr ?hp (fun _ hk => hk) trivial (Below.refl _ _) (Nat.le_refl _) (by simp) ?_; (case hd => rfl); (case hg => rfl); (case hr => first | (go_simp; done) | (go_simp; rfl)); (case hp => exact (Reps.none _ _)); intro v1 w1 ho hb hg_ hnew_; have HG0 : Aside0 (G0 w w1 w.heap.size v1 []) := ⟨⟨(hb.block _ (by simp)).trans (heap_alloc_new w _), Kd.R_lower ho (by simp), below_then (below_alloc (Below.refl _ w) _) (by simp) hb⟩⟩; clear hg_ hnew_ ho hb) | ((with_reducible refine gate_builtin (b := .append) (xs := #[.tmp 11, .tmp 12]) rfl ?_); at_builtin; refine Kd.R_append_rows (Kd.int .u8) (w0 := w) w.heap.size rfl (.tmp 11) (.tmp 12) 22 5 (.int .u8 0) 1 rfl Try.underlying22 info5 rfl (by decide) (by omega) v1 [] l _ _ _ (fun _ => True) (fun _ => False) rfl rfl HG0.out.r (Kd.C_below HC.out HG0.out.b) (fun _ _ h => h) (fun _ h => h.elim) (fun _ _ => trivial) HG0.out.b HG0.out.b.size (by rw [List.length_nil]; omega) ?_; intro v2 w2 ho hb hg hat; rw [List.nil_append] at ho; have HG1 := Aside0.mk (HG0.out.step hg ho hb); clear ho hb hg hat HG0) | ((with_reducible refine gate_builtin (b := .append) (xs := #[.tmp 13, .tmp 14]) rfl ?_); at_builtin; refine Kd.R_append (Kd.int .u8) (w0 := w) w.heap.size rfl (.tmp 13) (.tmp 14) 22 5 (.int .u8 0) 1 rfl Try.underlying22 info5 rfl (by decide) (by omega) (v2) (l) (128) [.int .u8 (128)] (fun _ => True) (fun _ => False) (by rfl) (by rfl) rfl (fun _ hk => hk.elim) (fun _ _ => trivial) HG1.out.r HG1.out.b HG1.out.b.size (by omega) ?_; intro v3 w3 hr2 hb2 hg2 hat2; have HG2 := Aside0.mk (HG1.out.step hg2 hr2 hb2); clear HG1; clear hat2 hr2 hb2 hg2))
  obtain ⟨x1, hx1⟩ : ∃ q, l ++ [128] = q := ⟨_, rfl⟩
  rw [hx1] at HG2
  have hlx : x1.length = l.length + 1 := by rw [← hx1]; simp
  have HX1 := Aside0.mk hx1
  have HLX := Aside0.mk hlx
  have hlxa : x1.length ≤ 140737488350001 := by omega
  clear hx1 hlx
  obtain ⟨A2, c2, hv2⟩ := Kd.R_slice HG2.out.r
  subst hv2
  have hz : padz (l.length + 1) < 64 := Nat.mod_lt _ (by decide)
  obtain ⟨Z, hZ⟩ : ∃ z, padz (l.length + 1) = z := ⟨_, rfl⟩
  rw [hZ] at hz
  have HZ := Aside0.mk hZ
  clear hZ
  go_loopw [3] (fun v wr => ∃ (j : Nat) (xs : List Int) (Av : Option Addr) (cv : Nat), v = .slice Av xs.length cv ∧ j ≤ Z ∧ Aside0 (xs = x1 ++ List.replicate j 0) ∧ Aside0 (xs.length = l.length + 1 + j) ∧ Aside0 (G0 w wr w.heap.size (.slice Av xs.length cv) xs)) (fun v _ => match v with | .slice _ n _ => l.length + 65 - n | _ => 0)
  case atStart => exact ⟨0, x1, A2, c2, rfl, by omega, ⟨by simp⟩, ⟨by rw [HLX.out]⟩, HG2⟩
  case round =>
    clear HG2
    obtain ⟨j, xs, Av, cv, rfl, hj, HX, HN, HE⟩ := hrel
    have hxa : xs.length ≤ 140737488350100 := by have := HN.out; omega
    by_cases hlt : j < Z
    · have b1 : (((xs.length : Int) % 64) == 56) = false := by
        have h1 := HN.out; have h2 := HZ.out; unfold padz at h2
        simp; omega
      have b2 : (((xs.length : Int) % 64) != 56) = true := by
        have h1 := HN.out; have h2 := HZ.out; unfold padz at h2
        simp; omega
      go_wp2_with (((with_reducible refine gate_builtin (b := .append) (xs := #[.tmp 20, .tmp 21]) rfl ?_); at_builtin; refine Kd.R_append (Kd.int .u8) (w0 := w) w.heap.size rfl (.tmp 20) (.tmp 21) 22 5 (.int .u8 0) 1 rfl Try.underlying22 info5 rfl (by decide) (by omega) (.slice Av xs.length cv) (xs) (0) [.int .u8 (0)] (fun _ => True) (fun _ => False) (by rfl) (by rfl) rfl (fun _ hk => hk.elim) (fun _ _ => trivial) HE.out.r HE.out.b HE.out.b.size (by omega) ?_; intro v2 w3 hr2 hb2 hg2 hat2; obtain ⟨ys, hys⟩ : ∃ q, xs ++ [0] = q := ⟨_, rfl⟩; rw [hys] at hr2; have HYS := Aside0.mk hys; clear hys; obtain ⟨A4, c4, rfl⟩ := Kd.R_slice hr2; have HE4 := Aside0.mk (HE.out.step hg2 hr2 hb2); clear HE; clear hat2 hr2 hb2 hg2))
      have hyl : ys.length = l.length + 1 + (j + 1) := by rw [← HYS.out, List.length_append, HN.out]; simp; omega
      exact ⟨⟨j + 1, ys, A4, c4, rfl, by omega, ⟨by rw [← HYS.out, HX.out, List.append_assoc, List.replicate_succ']⟩, ⟨hyl⟩, HE4⟩, by have := HN.out; show l.length + 65 - ys.length < l.length + 65 - xs.length; omega⟩
    · have hjz : j = Z := by omega
      have b1 : (((xs.length : Int) % 64) == 56) = true := by
        have h1 := HN.out; have h2 := HZ.out; unfold padz at h2
        simp; omega
      have b2 : (((xs.length : Int) % 64) != 56) = false := by
        have h1 := HN.out; have h2 := HZ.out; unfold padz at h2
        simp; omega
      subst hjz
      go_wp2
      clear b1 b2
      have HX8 := Aside0.mk (show xs = (l ++ [128]) ++ List.replicate (padz (l.length + 1)) 0 from by rw [HX.out, HX1.out, HZ.out])
      clear HX
      obtain ⟨wo, rfl⟩ : ∃ wo : World, wo = wr := ⟨_, rfl⟩
      go_loopw [3, 5] (fun v i wr => ∃ (k : Nat) (ys : List Int) (Av : Option Addr) (cv : Nat), v = .slice Av ys.length cv ∧ i = .int .i64 (7 - (k : Int)) ∧ k ≤ 8 ∧ Aside0 (ys = xs ++ len8 (l.length : Int) k) ∧ Aside0 (ys.length = xs.length + k) ∧ Aside0 (G0 w wr w.heap.size (.slice Av ys.length cv) ys)) (fun _ i _ => (intOf i + 1).toNat)
      case atStart => exact ⟨0, xs, Av, cv, rfl, rfl, by omega, ⟨by simp [len8]⟩, ⟨rfl⟩, HE⟩
      case round =>
        clear HE
        obtain ⟨k, ys, Av, cv, rfl, rfl, hk, HY, HYN, HE⟩ := hrel
        have hya : ys.length ≤ 140737488350200 := by have := HYN.out; omega
        by_cases hlt : k < 8
        · have e1 : (8 * (7 - (k : Int))).toNat = 56 - 8 * k := by omega
          have e2 : 0 ≤ 7 - (k : Int) := by omega
          have e3 : 8 * (7 - (k : Int)) ≤ 64 := by omega
          have e4 : 0 ≤ 8 * (7 - (k : Int)) := by omega
          go_wp2_with (((with_reducible refine gate_builtin (b := .append) (xs := #[.tmp 31, .tmp 38]) rfl ?_); at_builtin; refine Kd.R_append (Kd.int .u8) (w0 := w) w.heap.size rfl (.tmp 31) (.tmp 38) 22 5 (.int .u8 0) 1 rfl Try.underlying22 info5 rfl (by decide) (by omega) (.slice Av ys.length cv) (ys) (IntKind.u8.wrap ((l.length : Int) * 8 / 2 ^ (56 - 8 * k))) [.int .u8 (IntKind.u8.wrap ((l.length : Int) * 8 / 2 ^ (56 - 8 * k)))] (fun _ => True) (fun _ => False) (by rfl) (by rfl) rfl (fun _ hk => hk.elim) (fun _ _ => trivial) HE.out.r HE.out.b HE.out.b.size (by omega) ?_; intro v2 w3 hr2 hb2 hg2 hat2; obtain ⟨zs, hzs⟩ : ∃ q, ys ++ [lb (l.length : Int) k] = q := ⟨_, rfl⟩; rw [show IntKind.u8.wrap ((l.length : Int) * 8 / 2 ^ (56 - 8 * k)) = lb (l.length : Int) k from by unfold lb; rw [wu64 (n := (l.length : Int) * 8) (by omega) (by omega)], hzs] at hr2; have HZS := Aside0.mk hzs; clear hzs; obtain ⟨A4, c4, rfl⟩ := Kd.R_slice hr2; have HE4 := Aside0.mk (HE.out.step hg2 hr2 hb2); clear HE; clear hat2 hr2 hb2 hg2))
          have hzl : zs.length = xs.length + (k + 1) := by rw [← HZS.out, List.length_append, HYN.out]; simp; omega
          exact ⟨⟨k + 1, zs, A4, c4, rfl, by go_num, by omega, ⟨by rw [← HZS.out, HY.out, List.append_assoc, len8_succ]⟩, ⟨hzl⟩, HE4⟩, by simp [intOf]; omega⟩
        · have hkk : k = 8 := by omega
          subst hkk
          rw [show (7 - ((8 : Nat) : Int)) = -1 from rfl]
          have HP := Aside0.mk (show ys = pad l (l.length : Int) from by rw [HY.out, HX8.out]; rfl)
          clear HY HX8
          go_wp2_with (first | (go_at_call 30; refine (k_any _).mono ?_; rintro e w4 ⟨rfl, hb4⟩; have HB4 := Aside0.mk hb4; clear hb4) | (refine wpList_store_row rfl 55 (.tmp 7) (.tmp 41) rfl w4.heap.size KA rfl rfl 55 _ (heap_alloc_new w4 _) (by kernel_rfl) (by kernel_rfl) (by kernel_rfl) ?_; rw [World.setRow_alloc_new]))
          obtain ⟨gs, hgs⟩ : ∃ g, wr.heap.size = g := ⟨_, rfl⟩
          have hws : w.heap.size < gs := by rw [← hgs]; exact blk_lt HE.out.h
          have hsz : gs < w4.heap.size := by have := HB4.out.size; rw [size_alloc] at this; omega
          have HG : Aside0 (G1 w (w4.alloc (.cells KA 55)) w.heap.size gs w4.heap.size (.slice Av ys.length cv) ys H0) := by
            have hb4 := HB4.out
            have hb5 : Below wr.heap.size wr (w4.alloc (.cells KA 55)) := below_alloc (below_then (below_alloc (Below.refl _ wr) _) (by simp) hb4) _
            refine ⟨⟨(hb5.block _ (blk_lt HE.out.h)).trans HE.out.h, Kd.R_below HE.out.r hb5, blk_alloc ((hb4.block _ (by rw [← hgs, size_alloc]; omega)).trans (by rw [← hgs]; exact heap_alloc_new wr _)) _, heap_alloc_new w4 _, below_then HE.out.b HE.out.b.size hb5⟩⟩
          rw [hgs]
          clear HB4 HE hgs
          obtain ⟨gk, hgk⟩ : ∃ g, w4.heap.size = g := ⟨_, rfl⟩
          rw [hgk] at HG hsz ⊢
          clear hgk
          obtain ⟨Q, hQ⟩ : ∃ Q, ys.length / 64 = Q := ⟨_, rfl⟩
          have hyq : ys.length = 64 * Q := by
            have h1 := HYN.out; have h2 := HN.out; have h3 := HZ.out; unfold padz at h3; omega
          have HQ := Aside0.mk hQ
          have HYQ := Aside0.mk hyq
          have hyb := Aside0.mk (show B8 ys from by rw [HP.out]; exact pad_B8 HB8.out _)
          have hrd := (Kd.R_reads' HG.out.r).2.1
          clear hQ hyq
          obtain ⟨wo2, rfl⟩ : ∃ wo : World, wo = wr := ⟨_, rfl⟩
          go_loopw [8] (fun i wr => ∃ (m : Nat), i = .int .i64 ((64 * m : Nat) : Int) ∧ m ≤ Q ∧ Aside0 (G1 w wr w.heap.size gs gk (.slice Av ys.length cv) ys (takes H0 ys m))) (fun i _ => ys.length - (intOf i).toNat)
          case atStart => exact ⟨0, rfl, by omega, HG⟩
          case round =>
            clear HG
            obtain ⟨m, rfl, hm, HG⟩ := hrel
            obtain ⟨N, hN⟩ : ∃ N, 64 * m = N := ⟨_, rfl⟩
            rw [hN]
            by_cases hlt : m < Q
            · have hNl : N + 64 ≤ ys.length := by have := HYQ.out; omega
              have hnd : decide ((N : Int) < (ys.length : Int)) = true := decide_eq_true (by omega)
              have hnd2 : decide (N < ys.length) = true := decide_eq_true (by omega)
              obtain ⟨s0, s1, s2, s3, s4, s5, s6, s7, he⟩ := eight (show (takes H0 ys m).length = 8 by rw [takes_len]; rfl)
              have hsu : U32 (takes H0 ys m) := takes_U32 H0_U32 _ _
              have hs := HG.out.s
              rw [he] at hs hsu
              have c0 := hs.cell 0 (by simp)
              have c1 := hs.cell 1 (by simp)
              have c2 := hs.cell 2 (by simp)
              have c3 := hs.cell 3 (by simp)
              have c4 := hs.cell 4 (by simp)
              have c5 := hs.cell 5 (by simp)
              have c6 := hs.cell 6 (by simp)
              have c7 := hs.cell 7 (by simp)
              simp only [List.getD_cons_zero, List.getD_cons_succ] at c0 c1 c2 c3 c4 c5 c6 c7
              obtain ⟨i0, hi0, _, hsz0, _⟩ := info_parts info5
              obtain ⟨A5, hcut, hA5, hc5⟩ := print_mid_of (P := Try.prog) (Value.int .u8) 0 22 5 .i64 .i64 Try.underlying22 hi0 hsz0 Av cv ys (N : Int) ((N : Int) + 64) (by omega) (by omega) (by omega) hrd
              rw [show ((N : Int) + 64).toNat = N + 64 from by omega, Int.toNat_natCast] at hcut hA5 hc5
              have hpe : (ys.take (N + 64)).drop N = (ys.drop (64 * m)).take 64 := by rw [hN, List.drop_take]; congr 1; omega
              have hC5 : ∀ W, (Kd.int .u8).C W Av ys.length ys → (Kd.int .u8).C W A5 ((ys.take (N + 64)).drop N).length ((ys.take (N + 64)).drop N) := fun W hW => Kd.C_of_reads (h1 := fun _ => rfl) (hA5 W (Kd.reads_of_C hW))
              rw [hpe] at hcut hc5 hC5
              obtain ⟨p, hp⟩ : ∃ p, (ys.drop (64 * m)).take 64 = p := ⟨_, rfl⟩
              have hpl : p.length = 64 := by rw [← hp, List.length_take, List.length_drop]; omega
              have hpb : B8 p := by rw [← hp]; exact (hyb.out.drop _).take _
              have hcm : comp [s0, s1, s2, s3, s4, s5, s6, s7] p = takes H0 ys (m + 1) := by rw [takes, he, hp]
              rw [hp] at hcut hc5 hC5
              have HCUT : Aside0 _ := ⟨hcut⟩
              have HBL : Aside0 (∀ W, (Kd.int .u8).C W A5 p.length p → W.heap[gk]? = some (.cells KA 55 (0, 0)) → Calls Try.prog 31 #[.agg #[.int .u32 s0, .int .u32 s1, .int .u32 s2, .int .u32 s3, .int .u32 s4, .int .u32 s5, .int .u32 s6, .int .u32 s7], .slice A5 p.length (cv - N), .pointer (some ⟨gk, 0, none⟩)] W fun e w' => e = .returned (.agg (nums .u32 (takes H0 ys (m + 1))).toArray) ∧ Below W.heap.size W w') := by
                refine ⟨fun W h1 h2 => ?_⟩
                rw [← hcm]
                exact block_any s0 s1 s2 s3 s4 s5 s6 s7 A5 (cv - N) gk p W h1 hpl hc5 hpb h2 hsu
              have HC5 := Aside0.mk hC5
              clear hs hsu he hi0 hsz0 hA5 hpe hpl hpb hcm hc5 hC5 hp hcut
              have hcut := HCUT.out
              clear HCUT
              have f0 : IntKind.i64.wrap ((N : Int) + 64) = (N : Int) + 64 := IntWalk.i64_in _ (by omega)
              go_wp2
              go_still_tail 6, (by kernel_rfl)
              clear hcut f0 c0 c1 c2 c3 c4 c5 c6 c7
              change wpList _ _ _ _ _ wr.drew
              have HG3 : Aside0 (G1 w wr.drew w.heap.size gs gk (.slice Av ys.length cv) ys (takes H0 ys m)) := ⟨⟨HG.out.h, Kd.R_below HG.out.r (below_drew (Below.refl _ _)), HG.out.s, HG.out.k, below_drew HG.out.b⟩⟩
              have HBC := Aside0.mk (HBL.out wr.drew (HC5.out _ (Kd.R_reads' HG3.out.r).2.2) HG3.out.k)
              clear HG HBL HC5
              generalize wr.drew = wq at *
              go_wp2_with (first | (go_at_call 31; refine HBC.out.mono ?_; rintro e w5 ⟨rfl, hb5⟩; have HG4 : Aside0 (G1 w w5 w.heap.size gs gk (.slice Av ys.length cv) ys (takes H0 ys m)) := ⟨⟨(hb5.block _ (blk_lt HG3.out.h)).trans HG3.out.h, Kd.R_below HG3.out.r hb5, (hb5.block _ (blk_lt HG3.out.s)).trans HG3.out.s, (hb5.block _ (blk_lt HG3.out.k)).trans HG3.out.k, below_then HG3.out.b HG3.out.b.size hb5⟩⟩; clear hb5) | (refine wpList_store_row rfl 49 (.tmp 6) (.tmp 54) rfl gs _ rfl rfl 49 _ HG4.out.s (by rw [List.size_toArray, nums_length, takes_len]; kernel_rfl) (by rw [List.size_toArray, List.size_toArray, nums_length, nums_length, takes_len, takes_len]) (nums_one _) ?_))
              refine ⟨⟨m + 1, by rw [← hN]; go_num, by omega, ⟨?_⟩⟩, by have := HYQ.out; simp [intOf]; omega⟩
              exact ⟨(setRow_other _ _ _ _ (by omega)).trans HG4.out.h, R_setRow HG4.out.r HG4.out.s (by decide) _, setRow_heap _ _ _ _ _ _ HG4.out.s, (setRow_other _ _ _ _ (by omega)).trans HG4.out.k, below_setRow HG4.out.b (by omega) _⟩
            · have hmq : m = Q := by omega
              subst hmq
              have hnd2 : decide (N < ys.length) = false := decide_eq_false (by have := HYQ.out; omega)
              go_wp2
              clear hnd2
              obtain ⟨S, hS⟩ : ∃ S, takes H0 ys m = S := ⟨_, rfl⟩
              have hSl : S.length = 8 := by rw [← hS, takes_len]; rfl
              have HSE := Aside0.mk (show S = takes H0 (pad l (l.length : Int)) ((pad l (l.length : Int)).length / 64) from by rw [← hS, ← HQ.out, HP.out])
              have HSL := Aside0.mk hSl
              rw [hS] at HG
              clear hS hSl HP HQ HYQ
              obtain ⟨gd, hgd⟩ : ∃ g, wr.heap.size = g := ⟨_, rfl⟩
              have HF : Aside0 (F2 w (wr.alloc (.cells (nums .u8 (List.replicate 32 0)).toArray 25)) w.heap.size gs gd S (List.replicate 32 0)) := ⟨⟨blk_alloc HG.out.h _, blk_alloc HG.out.s _, by rw [← hgd]; exact heap_alloc_new wr _, below_alloc HG.out.b _⟩⟩
              have hgsd : gs < gd ∧ w.heap.size < gd := by rw [← hgd]; exact ⟨blk_lt HG.out.s, blk_lt HG.out.h⟩
              rw [hgd]
              clear hgd HG
              obtain ⟨wo3, rfl⟩ : ∃ wo : World, wo = wr := ⟨_, rfl⟩
              go_loopw [10] (fun i wr => ∃ (k : Nat), i = .int .i64 (k : Int) ∧ k ≤ 32 ∧ Aside0 (F2 w wr w.heap.size gs gd S (row (dig S k) 32))) (fun i _ => 32 - (intOf i).toNat)
              case atStart => exact ⟨0, rfl, by omega, HF⟩
              case round =>
                clear HF
                obtain ⟨k, rfl, hk, HF⟩ := hrel
                by_cases hlt : k < 32
                · have c0 := HF.out.s.cell (k / 4) (by rw [HSL.out]; omega)
                  have c1 := HF.out.h.cell k (by rw [row_len _ _ (by rw [dig_len]; omega)]; omega)
                  have f1 := HF.out.h.fr k
                  obtain ⟨x0, hx0⟩ : ∃ x, S.getD (k / 4) 0 = x := ⟨_, rfl⟩
                  obtain ⟨y0, hy0⟩ : ∃ x, (row (dig S k) 32).getD k 0 = x := ⟨_, rfl⟩
                  rw [hx0] at c0
                  rw [hy0] at c1
                  have HX0 := Aside0.mk hx0
                  clear hx0 hy0
                  have e1 : (24 - 8 * ((k : Int) % 4)).toNat = 24 - 8 * (k % 4) := by omega
                  have e2 : 0 ≤ 24 - 8 * ((k : Int) % 4) := by omega
                  have e3 : 24 - 8 * ((k : Int) % 4) ≤ 32 := by omega
                  have e4 : ((k : Int) / 4).toNat = k / 4 := by omega
                  have e5 : 0 ≤ (k : Int) / 4 := by omega
                  have e6 : (k : Int) / 4 < 8 := by omega
                  go_wp2
                  have hset : (row (dig S k) 32).set k (hb S k) = row (dig S (k + 1)) 32 := by
                    have := row_set (dig S k) 32 (hb S k) (by rw [dig_len]; omega)
                    rw [dig_len] at this
                    rw [this, dig_succ]
                  refine ⟨⟨k + 1, by go_num, by omega, ⟨?_⟩⟩, by simp [intOf]; omega⟩
                  rw [← hset]
                  have := HF.out.h.set k (hb S k)
                  unfold hb at this ⊢
                  rw [HX0.out] at this ⊢
                  exact ⟨HF.out.r.far (by show w.heap.size ≠ gd; omega) _, HF.out.s.far (by show gs ≠ gd; omega) _, this, below_set HF.out.b (by show w.heap.size ≤ gd; omega)⟩
                · have hkk : k = 32 := by omega
                  subst hkk
                  rw [show ((32 : Nat) : Int) = 32 from rfl]
                  have hf := HF.out.h
                  rw [row_full _ _ (dig_len S 32)] at hf
                  have HH := Aside0.mk hf
                  have HRR := Aside0.mk HF.out.r
                  have HBB := Aside0.mk HF.out.b
                  clear hf HF
                  go_wp2_with (first | (refine wpList_load_row rfl 25 (.tmp 9) rfl gd rfl 25 _ (0, 0) _ HH.out Try.underlying25 rfl (by rw [List.size_toArray, nums_length, dig_len]; kernel_rfl) ?_) | (refine wpList_store_row rfl 25 (.tmp 2) (.tmp 72) rfl w.heap.size _ rfl rfl 25 _ HRR.out (by rw [List.size_toArray, nums_length, dig_len]; kernel_rfl) (by rw [List.size_toArray, List.size_toArray, nums_length, nums_length, dig_len]; rfl) (u8_one _) ?_))
                  exact bodyPost_ret (results_cell_row rfl _ _ w.heap.size 25 _ (0, 0) _ rfl (setRow_heap _ _ _ _ _ _ HRR.out) Try.underlying25 rfl (by rw [List.size_toArray, nums_length, dig_len]; kernel_rfl)) rfl ⟨by rw [HSE.out]; rfl, below_setRow HBB.out (Nat.le_refl _) _⟩
end Go.Proofs.Ytlkddmkfllnnhaa.Dg
