/- digest: the reference's block. Own work. -/
import Derived.Test.YtlkddmkfllnnhaaDgS
import Derived.StillTailTactics
import Derived.IntWalk
import Derived.BigQuiet
import Derived.Laws.CopyOwn
namespace Go.Proofs.Ytlkddmkfllnnhaa.Dg
set_option linter.unusedVariables false
set_option linter.unusedSimpArgs false
open Go.RowKit Go.Proofs.Ytlkddmkfllnnhaa.Md Go.Proofs.Ytlkddmkfllnnhaa.PL Go.Proofs.YtlkddmkfllnnhaaW.PrintWords Go.Proofs.YtlkddmkfllnnhaaW.PrintLast Go.Proofs.YtlkddmkfllnnhaaW.PrintMore

/-- an array of words in memory -/
def Ar (w : World) (g t : Nat) (xs : List Int) : Prop := w.heap[g]? = some (.cells (nums .u32 xs).toArray t (0, 0))
theorem Ar.cell {w : World} {g t : Nat} {xs : List Int} (h : Ar w g t xs) (j : Nat) (hj : j < xs.length) : w.cell? ⟨g, j, none⟩ = some (.int .u32 (xs.getD j 0)) := by
  rw [blk_cell h j]
  simp [nums, hj, List.getD_eq_getElem?_getD]
theorem Ar.fr {w : World} {g t : Nat} {xs : List Int} (h : Ar w g t xs) (j : Nat) : w.frozen? ⟨g, j, none⟩ = false := blk_frozen h j
theorem Ar.set {w : World} {g t : Nat} {xs : List Int} (h : Ar w g t xs) (j : Nat) (x : Int) : Ar (w.setCell ⟨g, j, none⟩ (.int .u32 x)) g t (xs.set j x) := by
  have := blk_set h j (.int .u32 x)
  unfold Ar
  rw [this]
  simp [nums]
theorem Ar.far {w : World} {g t : Nat} {xs : List Int} (h : Ar w g t xs) {p : Addr} (hp : g ≠ p.block) (u : Value) : Ar (w.setCell p u) g t xs := blk_far h hp u
theorem u8_cell {w : World} {ad : Addr} {n : Nat} {p : List Int} (h : (Kd.int .u8).C w (some ad) n p) (j : Nat) (hj : j < n) : w.cell? (ad.add j) = some (.int .u8 (p.getD j 0)) := by
  obtain ⟨ad', e, hc⟩ := Kd.at_int h (j : Int) (Int.natCast_nonneg _) (by omega)
  obtain rfl : ad = ad' := by injection e
  rw [Int.toNat_natCast] at hc
  rw [hc, rd_nat]
theorem u8_cell1 {w : World} {ad : Addr} {n : Nat} {p : List Int} (h : (Kd.int .u8).C w (some ad) n p) (j : Nat) (h0 : 0 < j) (hj : j < n) : w.cell? ⟨ad.block, ad.off + j, none⟩ = some (.int .u8 (p.getD j 0)) := by
  have := u8_cell h j hj
  rwa [show ad.add j = ⟨ad.block, ad.off + j, none⟩ from by unfold Addr.add; rw [if_neg (by omega)]] at this
theorem C_some {w : World} {A : Option Addr} {n : Nat} {p : List Int} (h : (Kd.int .u8).C w A n p) (hn : 0 < n) : ∃ ad, A = some ad := by
  obtain ⟨ad', e, hc⟩ := Kd.at_int h 0 (Int.le_refl _) (by omega)
  exact ⟨_, e⟩
theorem size_alloc (w : World) (o : Obj) : (w.alloc o).heap.size = w.heap.size + 1 := by show (w.heap.push o).size = _; simp
theorem at3_2 (w : World) (a b c : Obj) : (((w.alloc a).alloc b).alloc c).heap[w.heap.size + 1 + 1]? = some c := by
  have := heap_alloc_new ((w.alloc a).alloc b) c
  rwa [size_alloc, size_alloc] at this
theorem at3_1 (w : World) (a b c : Array Value) (t1 t2 t3 : Nat) : (((w.alloc (.cells a t1)).alloc (.cells b t2)).alloc (.cells c t3)).heap[w.heap.size + 1]? = some (.cells b t2) := by
  have := heap_alloc_new (w.alloc (.cells a t1)) (.cells b t2)
  rw [size_alloc] at this
  exact blk_alloc this _
theorem nums_one (xs : List Int) : (nums .u32 xs).toArray.all (·.oneCell') = true := by
  rw [Array.all_eq_true_iff_forall_mem]
  intro v hv
  simp only [nums, List.mem_toArray, List.mem_map] at hv
  obtain ⟨x, _, rfl⟩ := hv
  rfl
structure B1 (w wr : World) (g0 g1 g2 : Nat) (ss ws : List Int) : Prop where
  s : Ar wr g0 49 ss
  r : ∃ rs, Ar wr g1 49 rs ∧ rs.length = 8
  a : Ar wr g2 55 ws
  l : ws.length = 64
  u : U32 ws
  b : Below w.heap.size w wr
theorem B1.put {w wr : World} {g0 g1 g2 : Nat} {ss ws : List Int} (h : B1 w wr g0 g1 g2 ss ws) (h02 : g0 ≠ g2) (h12 : g1 ≠ g2) (hg : w.heap.size ≤ g2) (k : Nat) {x : Int} (hx : 0 ≤ x ∧ x < 4294967296) :
    B1 w (wr.setCell ⟨g2, k, none⟩ (.int .u32 x)).drew g0 g1 g2 ss (ws.set k x) := by
  obtain ⟨hs, ⟨rs, hr, hl⟩, ha, hl2, hu, hb⟩ := h
  exact ⟨Ar.far hs (by simpa using h02) _, ⟨rs, Ar.far hr (by simpa using h12) _, hl⟩, Ar.set ha k x, by rw [List.length_set]; exact hl2, hu.set k hx, below_drew (below_set hb hg)⟩
theorem quiet_more {P : Program} {f : FuncId} {args : Array Value} {w : World} {a n : Nat} {v : Value} (h : Calls P f args (w.drewN (a + n)) fun e w' => e = .returned v ∧ w' = w.drewN (a + n)) :
    Calls P f args (w.drewN (a + n)) fun e w'' => e = .returned v ∧ ∃ m, w'' = w.drewN (a + m) := h.mono fun _ _ ⟨he, hm⟩ => ⟨he, n, hm⟩
structure C1 (w wr : World) (g0 g1 g3 : Nat) (g2 : Nat) (ss ws vs : List Int) : Prop where
  s : Ar wr g0 49 ss
  r : ∃ rs, Ar wr g1 49 rs ∧ rs.length = 8
  a : Ar wr g2 55 ws
  v : Ar wr g3 49 vs
  b : Below w.heap.size w wr
theorem B1.lt {w wr : World} {g0 g1 g2 : Nat} {ss ws : List Int} (h : B1 w wr g0 g1 g2 ss ws) : g0 < wr.heap.size ∧ g1 < wr.heap.size ∧ g2 < wr.heap.size := by
  obtain ⟨rs, hr, _⟩ := h.r
  exact ⟨blk_lt h.s, blk_lt hr, blk_lt h.a⟩
theorem B1.more {w wr : World} {g0 g1 g2 : Nat} {ss ws : List Int} (h : B1 w wr g0 g1 g2 ss ws) (vs : List Int) : C1 w (wr.alloc (.cells (nums .u32 vs).toArray 49)) g0 g1 wr.heap.size g2 ss ws vs := by
  obtain ⟨rs, hr, hl⟩ := h.r
  exact ⟨blk_alloc h.s _, ⟨rs, blk_alloc hr _, hl⟩, blk_alloc h.a _, heap_alloc_new wr _, below_alloc h.b _⟩
theorem C1.drewN {w wr : World} {g0 g1 g2 g3 : Nat} {ss ws vs : List Int} (h : C1 w wr g0 g1 g3 g2 ss ws vs) (n : Nat) : C1 w (wr.drewN n) g0 g1 g3 g2 ss ws vs :=
  ⟨h.s, h.r, h.a, h.v, pw_below_drewN h.b n⟩
structure Apart4 (w : World) (g0 g1 g2 g3 : Nat) : Prop where
  h0 : w.heap.size ≤ g0
  h1 : w.heap.size ≤ g1
  h2 : w.heap.size ≤ g2
  h3 : w.heap.size ≤ g3
  h01 : g0 ≠ g1
  h02 : g0 ≠ g2
  h03 : g0 ≠ g3
  h12 : g1 ≠ g2
  h13 : g1 ≠ g3
  h23 : g2 ≠ g3
theorem C1.putv {w wr : World} {g0 g1 g2 g3 : Nat} {ss ws vs : List Int} (h : C1 w wr g0 g1 g3 g2 ss ws vs) (q : Apart4 w g0 g1 g2 g3) (k : Nat) (x : Int) : C1 w (wr.setCell ⟨g3, k, none⟩ (.int .u32 x)) g0 g1 g3 g2 ss ws (vs.set k x) := by
  obtain ⟨hs, ⟨rs, hr, hl⟩, ha, hv, hb⟩ := h
  exact ⟨Ar.far hs (by simpa using q.h03) _, ⟨rs, Ar.far hr (by simpa using q.h13) _, hl⟩, Ar.far ha (by simpa using q.h23) _, Ar.set hv k x, below_set hb q.h3⟩
theorem C1.puts {w wr : World} {g0 g1 g2 g3 : Nat} {ss ws vs : List Int} (h : C1 w wr g0 g1 g3 g2 ss ws vs) (q : Apart4 w g0 g1 g2 g3) (k : Nat) (x : Int) : C1 w (wr.setCell ⟨g0, k, none⟩ (.int .u32 x)).drew g0 g1 g3 g2 (ss.set k x) ws vs := by
  obtain ⟨hs, ⟨rs, hr, hl⟩, ha, hv, hb⟩ := h
  exact ⟨Ar.set hs k x, ⟨rs, Ar.far hr (by simpa using q.h01.symm) _, hl⟩, Ar.far ha (by simpa using q.h02.symm) _, Ar.far hv (by simpa using q.h03.symm) _, below_drew (below_set hb q.h0)⟩

set_option maxHeartbeats 4000000 in
set_option maxRecDepth 100000 in
theorem block_any (s0 s1 s2 s3 s4 s5 s6 s7 : Int) (A : Option Addr) (cp gk : Nat) (p : List Int) (w : World) (hp : (Kd.int .u8).C w A p.length p) (hl : p.length = 64) (hc : p.length ≤ cp) (hb : B8 p) (hk : w.heap[gk]? = some (.cells KA 55 (0, 0))) (hsu : U32 [s0, s1, s2, s3, s4, s5, s6, s7]) :
    Calls Try.prog 31 #[.agg #[.int .u32 s0, .int .u32 s1, .int .u32 s2, .int .u32 s3, .int .u32 s4, .int .u32 s5, .int .u32 s6, .int .u32 s7], .slice A p.length cp, .pointer (some ⟨gk, 0, none⟩)] w fun e w' => e = .returned (.agg (nums .u32 (comp [s0, s1, s2, s3, s4, s5, s6, s7] p)).toArray) ∧ Below w.heap.size w w' := by
  have HP := Aside0.mk hp
  have HK := Aside0.mk hk
  have HL := Aside0.mk hl
  have HSU := Aside0.mk hsu
  have hll : 64 ≤ p.length := by omega
  have HB8 := Aside0.mk hb
  obtain ⟨ad, rfl⟩ := C_some hp (by omega)
  clear hp hk hl hb hsu
  go_enter Try.func31, Try.ntmps31
  go_wp2
  go_loopw [8] (fun i wr => ∃ (k : Nat) (ws : List Int), i = .int .i64 (k : Int) ∧ k ≤ 16 ∧ Aside0 (B1 w wr w.heap.size (w.heap.size + 1) (w.heap.size + 1 + 1) [s0, s1, s2, s3, s4, s5, s6, s7] ws) ∧ Aside0 (ws.take k = wds p k)) (fun i _ => 16 - (intOf i).toNat)
  case atStart =>
    refine ⟨0, List.replicate 64 0, rfl, by omega, ⟨⟨?_, ⟨List.replicate 8 0, ?_, rfl⟩, ?_, rfl, fun x hx => by have := List.eq_of_mem_replicate hx; omega, ?_⟩⟩, ⟨rfl⟩⟩
    · exact blk_alloc (blk_alloc (heap_alloc_new w _) _) _
    · exact at3_1 w _ _ _ _ _ _
    · exact at3_2 w _ _ _
    · exact below_alloc (below_alloc (below_alloc (Below.refl _ w) _) _) _
  case round =>
    obtain ⟨k, ws, rfl, hk, HB, HW⟩ := hrel
    by_cases hlt : k < 16
    · have HC := Aside0.mk (Kd.C_below HP.out HB.out.b)
      have c0 := u8_cell HC.out (4 * k) (by omega)
      have c1 := u8_cell1 HC.out (4 * k + 1) (by omega) (by omega)
      have c2 := u8_cell1 HC.out (4 * k + 2) (by omega) (by omega)
      have c3 := u8_cell1 HC.out (4 * k + 3) (by omega) (by omega)
      have hwl := HB.out.l
      have d0 := HB.out.a.cell k (by omega)
      have d1 := HB.out.a.fr k
      clear hwl
      obtain ⟨x0, hx0⟩ : ∃ x, p.getD (4 * k) 0 = x := ⟨_, rfl⟩
      rw [hx0] at c0
      have HX0 := Aside0.mk hx0
      clear hx0
      obtain ⟨x1, hx1⟩ : ∃ x, p.getD (4 * k + 1) 0 = x := ⟨_, rfl⟩
      rw [hx1] at c1
      have HX1 := Aside0.mk hx1
      clear hx1
      obtain ⟨x2, hx2⟩ : ∃ x, p.getD (4 * k + 2) 0 = x := ⟨_, rfl⟩
      rw [hx2] at c2
      have HX2 := Aside0.mk hx2
      clear hx2
      obtain ⟨x3, hx3⟩ : ∃ x, p.getD (4 * k + 3) 0 = x := ⟨_, rfl⟩
      rw [hx3] at c3
      have HX3 := Aside0.mk hx3
      clear hx3
      obtain ⟨y0, hy0⟩ : ∃ x, ws.getD k 0 = x := ⟨_, rfl⟩
      rw [hy0] at d0
      clear hy0
      have g4 : 0 ≤ (k : Int) := by omega
      have j4 : (k : Int) < 64 := by omega
      have f0 : IntKind.i64.wrap (4 * (k : Int)) = 4 * (k : Int) := IntWalk.i64_in _ (by omega)
      have g0 : 0 ≤ 4 * (k : Int) := by omega
      have i0 : (4 * (k : Int)).toNat = 4 * k := by omega
      have j0 : 4 * (k : Int) < (p.length : Int) := by omega
      have f1 : IntKind.i64.wrap (4 * (k : Int) + 1) = 4 * (k : Int) + 1 := IntWalk.i64_in _ (by omega)
      have g1 : 0 ≤ 4 * (k : Int) + 1 := by omega
      have i1 : (4 * (k : Int) + 1).toNat = 4 * k + 1 := by omega
      have j1 : 4 * (k : Int) + 1 < (p.length : Int) := by omega
      have f2 : IntKind.i64.wrap (4 * (k : Int) + 2) = 4 * (k : Int) + 2 := IntWalk.i64_in _ (by omega)
      have g2 : 0 ≤ 4 * (k : Int) + 2 := by omega
      have i2 : (4 * (k : Int) + 2).toNat = 4 * k + 2 := by omega
      have j2 : 4 * (k : Int) + 2 < (p.length : Int) := by omega
      have f3 : IntKind.i64.wrap (4 * (k : Int) + 3) = 4 * (k : Int) + 3 := IntWalk.i64_in _ (by omega)
      have g3 : 0 ≤ 4 * (k : Int) + 3 := by omega
      have i3 : (4 * (k : Int) + 3).toNat = 4 * k + 3 := by omega
      have j3 : 4 * (k : Int) + 3 < (p.length : Int) := by omega
      go_wp2
      go_still_tail 35, (by kernel_rfl)
      clear f0 f1 f2 f3 g0 g1 g2 g3 i0 i1 i2 i3 j0 j1 j2 j3
      change wpList _ _ _ _ _ wr.drew
      go_wp2
      refine ⟨⟨k + 1, ws.set k (word p k), by go_num, by omega, ⟨?_⟩, ⟨?_⟩⟩, by simp [intOf]; omega⟩
      · have := HB.out.put (by omega) (by omega) (by omega) k (x := word p k) (bits_r _ _ _)
        unfold word at this ⊢
        rw [HX0.out, HX1.out, HX2.out, HX3.out] at this ⊢
        exact this
      · rw [take_set ws k _ (by rw [HB.out.l]; omega), HW.out, wds_succ]
    · have hkk : k = 16 := by omega
      subst hkk
      rw [show ((16 : Nat) : Int) = 16 from rfl]
      go_wp2
      obtain ⟨wo, rfl⟩ : ∃ wo : World, wo = wr := ⟨_, rfl⟩
      go_loopw [9] (fun i wr => ∃ (j : Nat) (ws : List Int), i = .int .i64 (j : Int) ∧ 16 ≤ j ∧ j ≤ 64 ∧ Aside0 (B1 w wr w.heap.size (w.heap.size + 1) (w.heap.size + 1 + 1) [s0, s1, s2, s3, s4, s5, s6, s7] ws) ∧ Aside0 (ws.take j = sch p (j - 16))) (fun i _ => 64 - (intOf i).toNat)
      case atStart => exact ⟨16, ws, rfl, by omega, by omega, HB, HW⟩
      case round =>
        clear HB HW hk hlt
        obtain ⟨j, ws, rfl, hj16, hj, HB, HW⟩ := hrel
        by_cases hlt : j < 64
        · have hwl := HB.out.l
          have c0 := HB.out.a.cell (j - 15) (by omega)
          have c1 := HB.out.a.cell (j - 2) (by omega)
          have c2 := HB.out.a.cell (j - 16) (by omega)
          have c3 := HB.out.a.cell (j - 7) (by omega)
          have d0 := HB.out.a.cell j (by omega)
          have d1 := HB.out.a.fr j
          have r0 := HB.out.u.getD (j - 15)
          have r1 := HB.out.u.getD (j - 2)
          clear hwl
          obtain ⟨x0, hx0⟩ : ∃ x, ws.getD (j - 15) 0 = x := ⟨_, rfl⟩
          obtain ⟨x1, hx1⟩ : ∃ x, ws.getD (j - 2) 0 = x := ⟨_, rfl⟩
          obtain ⟨x2, hx2⟩ : ∃ x, ws.getD (j - 16) 0 = x := ⟨_, rfl⟩
          obtain ⟨x3, hx3⟩ : ∃ x, ws.getD (j - 7) 0 = x := ⟨_, rfl⟩
          obtain ⟨x4, hx4⟩ : ∃ x, ws.getD j 0 = x := ⟨_, rfl⟩
          rw [hx0] at c0 r0
          rw [hx1] at c1 r1
          rw [hx2] at c2
          rw [hx3] at c3
          rw [hx4] at d0
          have HX := Aside0.mk (And.intro hx0 (And.intro hx1 (And.intro hx2 hx3)))
          clear hx0 hx1 hx2 hx3 hx4
          have R0 := Aside0.mk r0
          have R1 := Aside0.mk r1
          clear r0 r1
          go_wp2
          have g4 : 0 ≤ (j : Int) := by omega
          have j4 : (j : Int) < 64 := by omega
          have f0 : IntKind.i64.wrap ((j : Int) - 16) = (j : Int) - 16 := IntWalk.i64_in _ (by omega)
          have f1 : IntKind.i64.wrap ((j : Int) - 7) = (j : Int) - 7 := IntWalk.i64_in _ (by omega)
          have l0 : 16 ≤ (j : Int) := by omega
          have l1 : 7 ≤ (j : Int) := by omega
          have h0 : 0 ≤ (j : Int) - 16 := by omega
          have h1 : 0 ≤ (j : Int) - 7 := by omega
          have k0 : (j : Int) - 16 < 64 := by omega
          have k1 : (j : Int) - 7 < 64 := by omega
          have i0 : ((j : Int) - 16).toNat = j - 16 := by omega
          have i1 : ((j : Int) - 7).toNat = j - 7 := by omega
          go_still_tail 29, (by kernel_rfl)
          still_call (turnR7 _ _ R0.out.1 R0.out.2)
          repeat still_step
          still_call (turnR18 _ _ R0.out.1 R0.out.2)
          repeat still_step
          still_call (turnR17 _ _ R1.out.1 R1.out.2)
          repeat still_step
          still_call (turnR19 _ _ R1.out.1 R1.out.2)
          repeat still_step
          refine wpStill_nil ?_
          clear f0 f1 h0 h1 k0 k1 i0 i1 l0 l1
          change wpList _ _ _ _ _ wr.drew
          go_wp2
          refine ⟨⟨j + 1, ws.set j (nxt (sch p (j - 16)) j), by go_num, by omega, by omega, ⟨?_⟩, ⟨?_⟩⟩, by simp [intOf]; omega⟩
          · have := HB.out.put (by omega) (by omega) (by omega) j (x := nxt (sch p (j - 16)) j) (mod_r _)
            unfold nxt sg0 sg1 at this ⊢
            rw [← HW.out, getD_take _ _ _ (by omega), getD_take _ _ _ (by omega), getD_take _ _ _ (by omega), getD_take _ _ _ (by omega), HX.out.1, HX.out.2.1, HX.out.2.2.1, HX.out.2.2.2] at this ⊢
            exact this
          · rw [take_set ws j _ (by rw [HB.out.l]; omega), HW.out, show j + 1 - 16 = (j - 16) + 1 from by omega, sch, show j - 16 + 16 = j from by omega]
        · have hjj : j = 64 := by omega
          subst hjj
          rw [show ((64 : Nat) : Int) = 64 from rfl]
          have hs : wr.heap[w.heap.size]? = some (.cells #[.int .u32 s0, .int .u32 s1, .int .u32 s2, .int .u32 s3, .int .u32 s4, .int .u32 s5, .int .u32 s6, .int .u32 s7] 49 (0, 0)) := HB.out.s
          have HS := Aside0.mk hs
          clear hs
          go_wp2_with (refine wpList_load_row rfl 49 (.tmp 3) rfl w.heap.size rfl 49 _ (0, 0) _ HS.out Try.underlying49 rfl (by kernel_rfl) ?_)
          have HC1 := Aside0.mk (HB.out.more [s0, s1, s2, s3, s4, s5, s6, s7])
          have HLT := Aside0.mk HB.out.lt
          have HWL := Aside0.mk HB.out.l
          have HWU := Aside0.mk HB.out.u
          have hws : ws = sch p 48 := by rw [← HW.out, List.take_of_length_le (by rw [HWL.out]; omega)]
          have HWS := Aside0.mk hws
          clear hws HB HW HS
          obtain ⟨g3, hg3⟩ : ∃ g, wr.heap.size = g := ⟨_, rfl⟩
          rw [hg3] at HC1 HLT ⊢
          have HQ := Aside0.mk (show Apart4 w w.heap.size (w.heap.size + 1) (w.heap.size + 1 + 1) g3 from ⟨by omega, by omega, by omega, by have := HLT.out; omega, by omega, by omega, by have := HLT.out; omega, by omega, by have := HLT.out; omega, by have := HLT.out; omega⟩)
          have HG3 := Aside0.mk hg3
          clear hg3
          obtain ⟨wo, rfl⟩ : ∃ wo : World, wo = wr := ⟨_, rfl⟩
          go_loopw [13] (fun i wr => ∃ (n : Nat) (a b c d e f g hh : Int), i = .int .i64 (n : Int) ∧ n ≤ 64 ∧ Aside0 (C1 w wr w.heap.size (w.heap.size + 1) g3 (w.heap.size + 1 + 1) [s0, s1, s2, s3, s4, s5, s6, s7] ws [a, b, c, d, e, f, g, hh]) ∧ Aside0 ([a, b, c, d, e, f, g, hh] = rnds [s0, s1, s2, s3, s4, s5, s6, s7] ws n) ∧ Aside0 (U32 [a, b, c, d, e, f, g, hh])) (fun i _ => 64 - (intOf i).toNat)
          case atStart => exact ⟨0, s0, s1, s2, s3, s4, s5, s6, s7, rfl, by omega, HC1, ⟨rfl⟩, HSU⟩
          case round =>
            clear HC1
            obtain ⟨n, a, b, c, d, e, f, g, hh, rfl, hn, HC, HR, HU⟩ := hrel
            by_cases hlt : n < 64
            · have c0 := HC.out.v.cell 0 (by simp)
              have c1 := HC.out.v.cell 1 (by simp)
              have c2 := HC.out.v.cell 2 (by simp)
              have c3 := HC.out.v.cell 3 (by simp)
              have c4 := HC.out.v.cell 4 (by simp)
              have c5 := HC.out.v.cell 5 (by simp)
              have c6 := HC.out.v.cell 6 (by simp)
              have c7 := HC.out.v.cell 7 (by simp)
              simp only [List.getD_cons_zero, List.getD_cons_succ] at c0 c1 c2 c3 c4 c5 c6 c7
              have z0 := HC.out.v.fr 0
              have z1 := HC.out.v.fr 1
              have z2 := HC.out.v.fr 2
              have z3 := HC.out.v.fr 3
              have z4 := HC.out.v.fr 4
              have z5 := HC.out.v.fr 5
              have z6 := HC.out.v.fr 6
              have z7 := HC.out.v.fr 7
              have ck := Ar.cell (t := 55) (xs := KK) ((HC.out.b.block gk (blk_lt HK.out)).trans HK.out) n (by show n < 64; omega)
              have cw := HC.out.a.cell n (by rw [HWL.out]; omega)
              obtain ⟨kn, hkn⟩ : ∃ x, KK.getD n 0 = x := ⟨_, rfl⟩
              obtain ⟨wn, hwn⟩ : ∃ x, ws.getD n 0 = x := ⟨_, rfl⟩
              rw [hkn] at ck
              rw [hwn] at cw
              have HKW := Aside0.mk (And.intro hkn hwn)
              clear hkn hwn
              have ra := Aside0.mk (HU.out a (by simp))
              have re := Aside0.mk (HU.out e (by simp))
              have g4 : 0 ≤ (n : Int) := by omega
              have j4 : (n : Int) < 64 := by omega
              go_wp2
              go_quiet (fail)
              go_wp2_with fail
              go_quiet ((first | (go_at_call 44; with_reducible exact quiet_more (turnR6 _ _ re.out.1 re.out.2)) | (go_at_call 44; with_reducible exact quiet_more (turnR11 _ _ re.out.1 re.out.2)) | (go_at_call 44; with_reducible exact quiet_more (turnR25 _ _ re.out.1 re.out.2))))
              go_wp2_with fail
              go_quiet ((first | (go_at_call 44; with_reducible exact quiet_more (turnR2 _ _ ra.out.1 ra.out.2)) | (go_at_call 44; with_reducible exact quiet_more (turnR13 _ _ ra.out.1 ra.out.2)) | (go_at_call 44; with_reducible exact quiet_more (turnR22 _ _ ra.out.1 ra.out.2))))
              go_wp2_with fail
              refine ⟨⟨n + 1, (one e f g hh kn wn + two a b c) % 4294967296, a, b, c, (d + one e f g hh kn wn) % 4294967296, e, f, g, by go_num, by omega, ⟨?_⟩, ⟨?_⟩, ⟨?_⟩⟩, by simp [intOf]; omega⟩
              · exact ((((((((HC.out.drewN _).putv HQ.out 0 _).putv HQ.out 1 a).putv HQ.out 2 b).putv HQ.out 3 c).putv HQ.out 4 _).putv HQ.out 5 e).putv HQ.out 6 f).putv HQ.out 7 g
              · rw [rnds, ← HR.out, HKW.out.1, HKW.out.2]
                rfl
              · intro x hx
                simp only [List.mem_cons, List.not_mem_nil, or_false] at hx
                rcases hx with rfl | rfl | rfl | rfl | rfl | rfl | rfl | rfl
                · exact mod_r _
                · exact HU.out _ (by simp)
                · exact HU.out _ (by simp)
                · exact HU.out _ (by simp)
                · exact mod_r _
                · exact HU.out _ (by simp)
                · exact HU.out _ (by simp)
                · exact HU.out _ (by simp)
            · have hnn : n = 64 := by omega
              subst hnn
              rw [show ((64 : Nat) : Int) = 64 from rfl]
              go_wp2
              have HV := Aside0.mk (show [a, b, c, d, e, f, g, hh] = rnds [s0, s1, s2, s3, s4, s5, s6, s7] (sch p 48) 64 from by rw [HR.out, HWS.out])
              obtain ⟨vs, hvs⟩ : ∃ vs, [a, b, c, d, e, f, g, hh] = vs := ⟨_, rfl⟩
              have hvl : vs.length = 8 := by rw [← hvs]; rfl
              rw [hvs] at HC HV
              clear hvs HR HU
              obtain ⟨ss, hss⟩ : ∃ ss, [s0, s1, s2, s3, s4, s5, s6, s7] = ss := ⟨_, rfl⟩
              have hsl : ss.length = 8 := by rw [← hss]; rfl
              rw [hss] at HC HV
              have HSS := Aside0.mk hss
              have HVL := Aside0.mk hvl
              have HSL := Aside0.mk hsl
              clear hss hvl hsl
              obtain ⟨wo, rfl⟩ : ∃ wo : World, wo = wr := ⟨_, rfl⟩
              go_loopw [18] (fun i wr => ∃ (n : Nat), i = .int .i64 (n : Int) ∧ n ≤ 8 ∧ Aside0 (C1 w wr w.heap.size (w.heap.size + 1) g3 (w.heap.size + 1 + 1) (adds ss vs n) ws vs)) (fun i _ => 8 - (intOf i).toNat)
              case atStart => exact ⟨0, rfl, by omega, HC⟩
              case round =>
                clear HC
                obtain ⟨n, rfl, hn, HC⟩ := hrel
                by_cases hlt : n < 8
                · have c0 := HC.out.s.cell n (by rw [adds_len, HSL.out]; omega)
                  have c1 := HC.out.v.cell n (by rw [HVL.out]; omega)
                  have f0 := HC.out.s.fr n
                  obtain ⟨xn, hxn⟩ : ∃ x, (adds ss vs n).getD n 0 = x := ⟨_, rfl⟩
                  obtain ⟨vn, hvn⟩ : ∃ x, vs.getD n 0 = x := ⟨_, rfl⟩
                  rw [hxn] at c0
                  rw [hvn] at c1
                  have HXV := Aside0.mk (And.intro hxn hvn)
                  clear hxn hvn
                  have g4 : 0 ≤ (n : Int) := by omega
                  have j4 : (n : Int) < 8 := by omega
                  go_wp2
                  go_still_tail 9, (by kernel_rfl)
                  change wpList _ _ _ _ _ wr.drew
                  go_wp2
                  refine ⟨⟨n + 1, by go_num, by omega, ⟨?_⟩⟩, by simp [intOf]; omega⟩
                  have := HC.out.puts HQ.out n ((xn + vn) % 4294967296)
                  rw [adds, HXV.out.1, HXV.out.2]
                  exact this
                · have hnn : n = 8 := by omega
                  subst hnn
                  rw [show ((8 : Nat) : Int) = 8 from rfl]
                  have hcm : adds ss vs 8 = comp ss p := by rw [HV.out]; rfl
                  rw [hcm] at HC
                  have hcl : (comp ss p).length = 8 := by rw [comp_len, HSL.out]
                  obtain ⟨rs, hrs, hrl⟩ := HC.out.r
                  have HRS := Aside0.mk hrs
                  have HRL := Aside0.mk hrl
                  have HCL := Aside0.mk hcl
                  clear hcm hrs hrl hcl
                  go_wp2_with (first | (refine wpList_load_row rfl 49 (.tmp 3) rfl w.heap.size rfl 49 _ (0, 0) _ HC.out.s Try.underlying49 rfl (by rw [List.size_toArray, nums_length, HCL.out]; kernel_rfl) ?_) | (refine wpList_store_row rfl 49 (.tmp 6) (.tmp 195) rfl (w.heap.size + 1) _ rfl rfl 49 _ HRS.out (by rw [List.size_toArray, nums_length, HCL.out]; kernel_rfl) (by rw [List.size_toArray, List.size_toArray, nums_length, nums_length, HCL.out, HRL.out]) (nums_one _) ?_))
                  exact bodyPost_ret (results_cell_row rfl _ _ (w.heap.size + 1) 49 _ (0, 0) _ rfl (setRow_heap _ _ _ _ _ _ HRS.out) Try.underlying49 rfl (by rw [List.size_toArray, nums_length, HCL.out]; kernel_rfl)) rfl ⟨by rw [HSS.out], below_setRow HC.out.b HQ.out.h1 _⟩
end Go.Proofs.Ytlkddmkfllnnhaa.Dg
