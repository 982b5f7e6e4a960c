/- digest: ended. Own work. -/
import Derived.Test.YtlkddmkfllnnhaaDgT
import Derived.Test.YtlkddmkfllnnhaaDgC
namespace Go.Proofs.Ytlkddmkfllnnhaa.Dg
set_option linter.unusedVariables false
set_option linter.unusedSimpArgs false
open Go.RowKit Go.Proofs.Ytlkddmkfllnnhaa.Md Go.Proofs.Ytlkddmkfllnnhaa.PL Go.Proofs.YtlkddmkfllnnhaaW.PrintWords Go.Proofs.YtlkddmkfllnnhaaW.PrintLast Go.Proofs.YtlkddmkfllnnhaaW.PrintMore

/-- how many noughts -/
def padz (k : Nat) : Nat := (120 - k % 64) % 64
def lb (n : Int) (j : Nat) : Int := IntKind.u8.wrap (IntKind.u64.wrap (n * 8) / 2 ^ (56 - 8 * j))
def len8 (n : Int) (j : Nat) : List Int := (List.range j).map (lb n)
def pad (l : List Int) (n : Int) : List Int := (l ++ [128]) ++ List.replicate (padz (l.length + 1)) 0 ++ len8 n 8
def hb (ss : List Int) (i : Nat) : Int := IntKind.u8.wrap (ss.getD (i / 4) 0 / 2 ^ (24 - 8 * (i % 4)))
def dig (ss : List Int) (i : Nat) : List Int := (List.range i).map (hb ss)
def fin (ss m : List Int) : List Int := dig (takes ss m (m.length / 64)) 32
theorem wu8_r (n : Int) : 0 ≤ IntKind.u8.wrap n ∧ IntKind.u8.wrap n < 256 := by rw [IntKind.wrap_u8]; omega
theorem len8_len (n : Int) (j : Nat) : (len8 n j).length = j := by simp [len8]
theorem dig_len (ss : List Int) (j : Nat) : (dig ss j).length = j := by simp [dig]
theorem len8_succ (n : Int) (j : Nat) : len8 n (j + 1) = len8 n j ++ [lb n j] := by simp [len8, List.range_succ]
theorem dig_succ (ss : List Int) (j : Nat) : dig ss (j + 1) = dig ss j ++ [hb ss j] := by simp [dig, List.range_succ]
theorem len8_B8 (n : Int) (j : Nat) : B8 (len8 n j) := fun x hx => by
  obtain ⟨i, _, rfl⟩ := List.mem_map.1 hx
  exact wu8_r _
theorem dig_B8 (ss : List Int) (j : Nat) : B8 (dig ss j) := fun x hx => by
  obtain ⟨i, _, rfl⟩ := List.mem_map.1 hx
  exact wu8_r _
theorem pad_len (l : List Int) (n : Int) : (pad l n).length = l.length + 1 + padz (l.length + 1) + 8 := by simp [pad, len8_len]; omega
theorem pad_B8 {l : List Int} (h : B8 l) (n : Int) : B8 (pad l n) := ((h.append (B8.one (by decide) (by decide))).append (B8.rep _)).append (len8_B8 _ _)

structure E1 (w wr : World) (g0 g1 : Nat) (ss hs : List Int) (v : Value) (xs : List Int) : Prop where
  s : Ax wr g0 50 ss []
  h : wr.heap[g1]? = some (.cells (nums .u8 hs).toArray 25 (0, 0))
  r : (Kd.int .u8).R 5 wr w.heap.size (fun _ => True) v xs
  b : Below w.heap.size w wr
theorem E1.step {w wr w1 : World} {g0 g1 : Nat} {ss hs : List Int} {v v1 : Value} {xs xs' : List Int} (h : E1 w wr g0 g1 ss hs v xs) (hg : wr.grownBy w1 v.ownBlock) (hr : (Kd.int .u8).R 5 w1 w.heap.size (fun _ => True) v1 xs') (hb : Below w.heap.size w w1) : E1 w w1 g0 g1 ss hs v1 xs' :=
  ⟨blk_grown h.s hg (Kd.R_ne h.r h.s (by decide)), blk_grown h.h hg (Kd.R_ne h.r h.h (by decide)), hr, hb⟩
/-- an array of bytes in memory -/
def AB (w : World) (g t : Nat) (xs : List Int) : Prop := w.heap[g]? = some (.cells (nums .u8 xs).toArray t (0, 0))
theorem AB.cell {w : World} {g t : Nat} {xs : List Int} (h : AB w g t xs) (j : Nat) (hj : j < xs.length) : w.cell? ⟨g, j, none⟩ = some (.int .u8 (xs.getD j 0)) := by
  rw [blk_cell h j]
  simp [nums, hj, List.getD_eq_getElem?_getD]
theorem AB.fr {w : World} {g t : Nat} {xs : List Int} (h : AB w g t xs) (j : Nat) : w.frozen? ⟨g, j, none⟩ = false := blk_frozen h j
theorem AB.set {w : World} {g t : Nat} {xs : List Int} (h : AB w g t xs) (j : Nat) (x : Int) : AB (w.setCell ⟨g, j, none⟩ (.int .u8 x)) g t (xs.set j x) := by
  have := blk_set h j (.int .u8 x)
  unfold AB
  rw [this]
  simp [nums]
theorem AB.far {w : World} {g t : Nat} {xs : List Int} (h : AB w g t xs) {p : Addr} (hp : g ≠ p.block) (u : Value) : AB (w.setCell p u) g t xs := blk_far h hp u
theorem u8_one (xs : List Int) : (nums .u8 xs).toArray.all (·.oneCell') = true := by
  rw [Array.all_eq_true_iff_forall_mem]
  intro v hv
  simp only [nums, List.mem_toArray, List.mem_map] at hv
  obtain ⟨x, _, rfl⟩ := hv
  rfl
/-- a row that is filled from its head on -/
def row (l : List Int) (n : Nat) : List Int := l ++ List.replicate (n - l.length) 0
theorem row_len (l : List Int) (n : Nat) (h : l.length ≤ n) : (row l n).length = n := by simp [row]; omega
theorem row_set (l : List Int) (n : Nat) (x : Int) (h : l.length < n) : (row l n).set l.length x = row (l ++ [x]) n := by
  obtain ⟨m, rfl⟩ : ∃ m, n = l.length + (m + 1) := ⟨n - l.length - 1, by omega⟩
  simp only [row, List.length_append, List.length_singleton]
  rw [show l.length + (m + 1) - l.length = m + 1 from by omega, show l.length + (m + 1) - (l.length + 1) = m from by omega, List.set_append]
  simp [List.replicate_succ]
theorem row_full (l : List Int) (n : Nat) (h : l.length = n) : row l n = l := by simp [row, h]
structure F1 (w wr : World) (g0 g1 : Nat) (ss hs : List Int) : Prop where
  s : Ax wr g0 50 ss []
  h : AB wr g1 25 hs
  b : Below w.heap.size w wr
theorem R_keep_blk {w w1 : World} {base g t : Nat} {cells : Array Value} {v : Value} {xs : List Int} (h : (Kd.int .u8).R 5 w base (fun _ => True) v xs) (hb : w.heap[g]? = some (.cells cells t (0, 0))) (ht : t ≠ 5) (hk : KeepBut w w1 g none) :
    (Kd.int .u8).R 5 w1 base (fun k => True ∧ k ≠ g) v xs :=
  Kd.R_keep (Kd.R_types h hb (fun q hq => by
    have : q = 5 := by simpa [Kd.int, Kd.scalar] using hq
    omega)) hk (fun _ hk => hk.2)
theorem e1_start {w w1 : World} {s0 s1 s2 s3 s4 s5 s6 s7 : Int} {v : Value} {xs : List Int}
    (hr : (Kd.int .u8).R 5 w1 ((w.alloc (.cells #[.int .u32 s0, .int .u32 s1, .int .u32 s2, .int .u32 s3, .int .u32 s4, .int .u32 s5, .int .u32 s6, .int .u32 s7] 50)).alloc (.cells (nums .u8 (List.replicate 32 0)).toArray 25)).heap.size (fun _ => True) v xs)
    (hb : Below ((w.alloc (.cells #[.int .u32 s0, .int .u32 s1, .int .u32 s2, .int .u32 s3, .int .u32 s4, .int .u32 s5, .int .u32 s6, .int .u32 s7] 50)).alloc (.cells (nums .u8 (List.replicate 32 0)).toArray 25)).heap.size ((w.alloc (.cells #[.int .u32 s0, .int .u32 s1, .int .u32 s2, .int .u32 s3, .int .u32 s4, .int .u32 s5, .int .u32 s6, .int .u32 s7] 50)).alloc (.cells (nums .u8 (List.replicate 32 0)).toArray 25)) w1) :
    Aside0 (E1 w w1 w.heap.size (w.heap.size + 1) [s0, s1, s2, s3, s4, s5, s6, s7] (List.replicate 32 0) v xs) := by
  refine ⟨⟨(hb.block _ (by simp; omega)).trans (blk_alloc (heap_alloc_new w _) _), (hb.block _ (by simp)).trans ?_, Kd.R_lower hr (by simp; omega), below_then (below_alloc (below_alloc (Below.refl _ w) _) _) (by simp; omega) hb⟩⟩
  have := heap_alloc_new (w.alloc (.cells #[.int .u32 s0, .int .u32 s1, .int .u32 s2, .int .u32 s3, .int .u32 s4, .int .u32 s5, .int .u32 s6, .int .u32 s7] 50)) (.cells (nums .u8 (List.replicate 32 0)).toArray 25)
  rwa [size_alloc] at this

set_option maxHeartbeats 4000000 in
set_option maxRecDepth 100000 in
theorem ended_any (s0 s1 s2 s3 s4 s5 s6 s7 : Int) (A : Option Addr) (c : Nat) (l : List Int) (n : Int) (w : World) (hC : (Kd.int .u8).C w A l.length l) (hl : l.length ≤ 140737488350000) (hb : B8 l) (hsu : U32 [s0, s1, s2, s3, s4, s5, s6, s7]) (hn0 : 0 ≤ n) (hn1 : n < 18446744073709551616) :
    Calls Try.prog 29 #[.agg #[.int .u32 s0, .int .u32 s1, .int .u32 s2, .int .u32 s3, .int .u32 s4, .int .u32 s5, .int .u32 s6, .int .u32 s7], .slice A l.length c, .int .u64 n] w fun e w' => e = .returned (.agg (nums .u8 (fin [s0, s1, s2, s3, s4, s5, s6, s7] (pad l n))).toArray) ∧ Below w.heap.size w w' := by
  have HC := Aside0.mk hC
  have HB8 := Aside0.mk hb
  have HSU := Aside0.mk hsu
  clear hC hb hsu
  go_enter Try.func29, Try.ntmps29
  go_wp2_with (first | (go_at_call 43; refine (clone_any _ _ _ _ (by repeat (first | exact HC.out | (with_reducible refine Kd.C_alloc ?_ _))) (by omega)).mono ?_; rintro e w1 ⟨v1, rfl, hr1, hb1⟩; have HE1 : Aside0 (E1 w w1 w.heap.size (w.heap.size + 1) [s0, s1, s2, s3, s4, s5, s6, s7] (List.replicate 32 0) v1 l) := e1_start hr1 hb1; clear hr1 hb1) | ((with_reducible refine gate_builtin (b := .append) (xs := #[.tmp 11, .tmp 12]) rfl ?_); at_builtin; refine Kd.R_append (Kd.int .u8) (w0 := w) w.heap.size rfl (.tmp 11) (.tmp 12) 22 5 (.int .u8 0) 1 rfl Try.underlying22 info5 rfl (by decide) (by omega) (v1) (l) (128) [.int .u8 (128)] (fun _ => True) (fun _ => False) (by rfl) (by rfl) rfl (fun _ hk => hk.elim) (fun _ _ => trivial) HE1.out.r HE1.out.b HE1.out.b.size (by omega) ?_; intro v2 w3 hr2 hb2 hg2 hat2; have HE2 := Aside0.mk (HE1.out.step hg2 hr2 hb2); clear HE1; clear hat2 hr2 hb2 hg2))
  obtain ⟨x1, hx1⟩ : ∃ q, l ++ [128] = q := ⟨_, rfl⟩
  rw [hx1] at HE2
  have hlx : x1.length = l.length + 1 := by rw [← hx1]; simp
  have HX1 := Aside0.mk hx1
  have HLX := Aside0.mk hlx
  have hlxa : x1.length ≤ 140737488350001 := by omega
  clear hx1 hlx
  obtain ⟨A2, c2, hv2⟩ := Kd.R_slice HE2.out.r
  subst hv2
  have hz : padz (l.length + 1) < 64 := Nat.mod_lt _ (by decide)
  obtain ⟨Z, hZ⟩ : ∃ z, padz (l.length + 1) = z := ⟨_, rfl⟩
  rw [hZ] at hz
  have HZ := Aside0.mk hZ
  clear hZ
  go_loopw [7] (fun v wr => ∃ (j : Nat) (xs : List Int) (Av : Option Addr) (cv : Nat), v = .slice Av xs.length cv ∧ j ≤ Z ∧ Aside0 (xs = x1 ++ List.replicate j 0) ∧ Aside0 (xs.length = l.length + 1 + j) ∧ Aside0 (E1 w wr w.heap.size (w.heap.size + 1) [s0, s1, s2, s3, s4, s5, s6, s7] (List.replicate 32 0) (.slice Av xs.length cv) xs)) (fun v _ => match v with | .slice _ n _ => l.length + 65 - n | _ => 0)
  case atStart => exact ⟨0, x1, A2, c2, rfl, by omega, ⟨by simp⟩, ⟨by rw [HLX.out]⟩, HE2⟩
  case round =>
    clear HE2
    obtain ⟨j, xs, Av, cv, rfl, hj, HX, HN, HE⟩ := hrel
    have hxa : xs.length ≤ 140737488350100 := by have := HN.out; omega
    by_cases hlt : j < Z
    · have b1 : (((xs.length : Int) % 64) == 56) = false := by
        have h1 := HN.out; have h2 := HZ.out; unfold padz at h2
        simp; omega
      have b2 : (((xs.length : Int) % 64) != 56) = true := by
        have h1 := HN.out; have h2 := HZ.out; unfold padz at h2
        simp; omega
      go_wp2_with (((with_reducible refine gate_builtin (b := .append) (xs := #[.tmp 18, .tmp 19]) rfl ?_); at_builtin; refine Kd.R_append (Kd.int .u8) (w0 := w) w.heap.size rfl (.tmp 18) (.tmp 19) 22 5 (.int .u8 0) 1 rfl Try.underlying22 info5 rfl (by decide) (by omega) (.slice Av xs.length cv) (xs) (0) [.int .u8 (0)] (fun _ => True) (fun _ => False) (by rfl) (by rfl) rfl (fun _ hk => hk.elim) (fun _ _ => trivial) HE.out.r HE.out.b HE.out.b.size (by omega) ?_; intro v2 w3 hr2 hb2 hg2 hat2; obtain ⟨ys, hys⟩ : ∃ q, xs ++ [0] = q := ⟨_, rfl⟩; rw [hys] at hr2; have HYS := Aside0.mk hys; clear hys; obtain ⟨A4, c4, rfl⟩ := Kd.R_slice hr2; have HE4 := Aside0.mk (HE.out.step hg2 hr2 hb2); clear HE; clear hat2 hr2 hb2 hg2))
      have hyl : ys.length = l.length + 1 + (j + 1) := by rw [← HYS.out, List.length_append, HN.out]; simp; omega
      exact ⟨⟨j + 1, ys, A4, c4, rfl, by omega, ⟨by rw [← HYS.out, HX.out, List.append_assoc, List.replicate_succ']⟩, ⟨hyl⟩, HE4⟩, by have := HN.out; show l.length + 65 - ys.length < l.length + 65 - xs.length; omega⟩
    · have hjz : j = Z := by omega
      have b1 : (((xs.length : Int) % 64) == 56) = true := by
        have h1 := HN.out; have h2 := HZ.out; unfold padz at h2
        simp; omega
      have b2 : (((xs.length : Int) % 64) != 56) = false := by
        have h1 := HN.out; have h2 := HZ.out; unfold padz at h2
        simp; omega
      subst hjz
      go_wp2
      clear b1 b2
      have HX8 := Aside0.mk (show xs = (l ++ [128]) ++ List.replicate (padz (l.length + 1)) 0 from by rw [HX.out, HX1.out, HZ.out])
      clear HX
      obtain ⟨wo, rfl⟩ : ∃ wo : World, wo = wr := ⟨_, rfl⟩
      go_loopw [7, 21] (fun v i wr => ∃ (k : Nat) (ys : List Int) (Av : Option Addr) (cv : Nat), v = .slice Av ys.length cv ∧ i = .int .i64 (k : Int) ∧ k ≤ 8 ∧ Aside0 (ys = xs ++ len8 n k) ∧ Aside0 (ys.length = xs.length + k) ∧ Aside0 (E1 w wr w.heap.size (w.heap.size + 1) [s0, s1, s2, s3, s4, s5, s6, s7] (List.replicate 32 0) (.slice Av ys.length cv) ys)) (fun _ i _ => 8 - (intOf i).toNat)
      case atStart => exact ⟨0, xs, Av, cv, rfl, rfl, by omega, ⟨by simp [len8]⟩, ⟨rfl⟩, HE⟩
      case round =>
        clear HE
        obtain ⟨k, ys, Av, cv, rfl, rfl, hk, HY, HYN, HE⟩ := hrel
        have hya : ys.length ≤ 140737488350200 := by have := HYN.out; omega
        by_cases hlt : k < 8
        · have e1 : (56 - 8 * (k : Int)).toNat = 56 - 8 * k := by omega
          have e2 : 0 ≤ 56 - 8 * (k : Int) := by omega
          have e3 : 56 - 8 * (k : Int) ≤ 64 := by omega
          go_wp2_with (((with_reducible refine gate_builtin (b := .append) (xs := #[.tmp 24, .tmp 32]) rfl ?_); at_builtin; refine Kd.R_append (Kd.int .u8) (w0 := w) w.heap.size rfl (.tmp 24) (.tmp 32) 22 5 (.int .u8 0) 1 rfl Try.underlying22 info5 rfl (by decide) (by omega) (.slice Av ys.length cv) (ys) (lb n k) [.int .u8 (lb n k)] (fun _ => True) (fun _ => False) (by rfl) (by rfl) rfl (fun _ hk => hk.elim) (fun _ _ => trivial) HE.out.r HE.out.b HE.out.b.size (by omega) ?_; intro v2 w3 hr2 hb2 hg2 hat2; obtain ⟨zs, hzs⟩ : ∃ q, ys ++ [lb n k] = q := ⟨_, rfl⟩; rw [hzs] at hr2; have HZS := Aside0.mk hzs; clear hzs; obtain ⟨A4, c4, rfl⟩ := Kd.R_slice hr2; have HE4 := Aside0.mk (HE.out.step hg2 hr2 hb2); clear HE; clear hat2 hr2 hb2 hg2))
          have hzl : zs.length = xs.length + (k + 1) := by rw [← HZS.out, List.length_append, HYN.out]; simp; omega
          exact ⟨⟨k + 1, zs, A4, c4, rfl, by go_num, by omega, ⟨by rw [← HZS.out, HY.out, List.append_assoc, len8_succ]⟩, ⟨hzl⟩, HE4⟩, by simp [intOf]; omega⟩
        · have hkk : k = 8 := by omega
          subst hkk
          rw [show ((8 : Nat) : Int) = 8 from rfl]
          have HP := Aside0.mk (show ys = pad l n from by rw [HY.out, HX8.out]; rfl)
          clear HY HX8
          have hrd := (Kd.R_reads' HE.out.r).2.1
          have hC2 := (Kd.R_reads' HE.out.r).2.2
          have HT := Aside0.mk (take_any w wr w.heap.size 50 [] [s0, s1, s2, s3, s4, s5, s6, s7] Av cv ys HE.out.s rfl HSU.out (Nat.le_refl _) HE.out.b (fun W h1 h2 => (Kd.R_reads' (R_keep_blk HE.out.r HE.out.s (by decide) h2)).2.2) hrd (by omega) (by rw [HP.out]; exact pad_B8 HB8.out n))
          go_wp2_with (go_at_call 28; refine HT.out.mono ?_; rintro e w4 ⟨rfl, hs4, hb4, hk4⟩)
          have hh4 : AB w4 (w.heap.size + 1) 25 (List.replicate 32 0) := (hk4.2 _ (blk_lt HE.out.h) (by omega) (by simp)).trans HE.out.h
          have hSl : (takes [s0, s1, s2, s3, s4, s5, s6, s7] ys (ys.length / 64)).length = 8 := by rw [takes_len]; rfl
          have hSe : takes [s0, s1, s2, s3, s4, s5, s6, s7] ys (ys.length / 64) = takes [s0, s1, s2, s3, s4, s5, s6, s7] (pad l n) ((pad l n).length / 64) := by rw [HP.out]
          obtain ⟨S, hS⟩ : ∃ S, takes [s0, s1, s2, s3, s4, s5, s6, s7] ys (ys.length / 64) = S := ⟨_, rfl⟩
          rw [hS] at hs4 hSl hSe
          have HF : Aside0 (F1 w w4 w.heap.size (w.heap.size + 1) S (List.replicate 32 0)) := ⟨⟨hs4, hh4, hb4⟩⟩
          have HSL := Aside0.mk hSl
          have HSE := Aside0.mk hSe
          clear hh4 hs4 hb4 hk4 HT hS hSl hSe HE HP
          go_loopw [37] (fun i wr => ∃ (k : Nat), i = .int .i64 (k : Int) ∧ k ≤ 32 ∧ Aside0 (F1 w wr w.heap.size (w.heap.size + 1) S (row (dig S k) 32))) (fun i _ => 32 - (intOf i).toNat)
          case atStart => exact ⟨0, rfl, by omega, HF⟩
          case round =>
            clear HF
            obtain ⟨k, rfl, hk, HF⟩ := hrel
            by_cases hlt : k < 32
            · have c0 := HF.out.s.cell (k / 4) (by rw [HSL.out]; omega)
              have c1 := HF.out.h.cell k (by rw [row_len _ _ (by rw [dig_len]; omega)]; omega)
              have f1 := HF.out.h.fr k
              obtain ⟨x0, hx0⟩ : ∃ x, S.getD (k / 4) 0 = x := ⟨_, rfl⟩
              obtain ⟨y0, hy0⟩ : ∃ x, (row (dig S k) 32).getD k 0 = x := ⟨_, rfl⟩
              rw [hx0] at c0
              rw [hy0] at c1
              have HX0 := Aside0.mk hx0
              clear hx0 hy0
              have e1 : (24 - 8 * ((k : Int) % 4)).toNat = 24 - 8 * (k % 4) := by omega
              have e2 : 0 ≤ 24 - 8 * ((k : Int) % 4) := by omega
              have e3 : 24 - 8 * ((k : Int) % 4) ≤ 32 := by omega
              have e4 : ((k : Int) / 4).toNat = k / 4 := by omega
              have e5 : 0 ≤ (k : Int) / 4 := by omega
              have e6 : (k : Int) / 4 < 8 := by omega
              go_wp2
              have hset : (row (dig S k) 32).set k (hb S k) = row (dig S (k + 1)) 32 := by
                have := row_set (dig S k) 32 (hb S k) (by rw [dig_len]; omega)
                rw [dig_len] at this
                rw [this, dig_succ]
              refine ⟨⟨k + 1, by go_num, by omega, ⟨?_⟩⟩, by simp [intOf]; omega⟩
              rw [← hset]
              have := HF.out.h.set k (hb S k)
              unfold hb at this ⊢
              rw [HX0.out] at this ⊢
              exact ⟨HF.out.s.far (by simp) _, this, below_set HF.out.b (by simp)⟩
            · have hkk : k = 32 := by omega
              subst hkk
              rw [show ((32 : Nat) : Int) = 32 from rfl]
              have hf := HF.out.h
              rw [row_full _ _ (dig_len S 32)] at hf
              have HH := Aside0.mk hf
              have HBB := Aside0.mk HF.out.b
              clear hf HF
              go_wp2_with (first | (refine wpList_load_row rfl 25 (.tmp 6) rfl (w.heap.size + 1) rfl 25 _ (0, 0) _ HH.out Try.underlying25 rfl (by rw [List.size_toArray, nums_length, dig_len]; kernel_rfl) ?_) | (refine wpList_store_row rfl 25 (.tmp 6) (.tmp 53) rfl (w.heap.size + 1) _ rfl rfl 25 _ HH.out (by rw [List.size_toArray, nums_length, dig_len]; kernel_rfl) rfl (u8_one _) ?_))
              exact bodyPost_ret (results_cell_row rfl _ _ (w.heap.size + 1) 25 _ (0, 0) _ rfl (setRow_heap _ _ _ _ _ _ HH.out) Try.underlying25 rfl (by rw [List.size_toArray, nums_length, dig_len]; kernel_rfl)) rfl ⟨by rw [HSE.out]; rfl, below_setRow HBB.out (by omega) _⟩
end Go.Proofs.Ytlkddmkfllnnhaa.Dg
