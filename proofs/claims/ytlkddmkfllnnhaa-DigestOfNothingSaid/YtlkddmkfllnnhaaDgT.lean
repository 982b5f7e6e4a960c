/- digest: the program's take. Own work. -/
import Derived.Test.YtlkddmkfllnnhaaDgB
import Derived.Deep.MidRow
namespace Go.Proofs.Ytlkddmkfllnnhaa.Dg
set_option linter.unusedVariables false
set_option linter.unusedSimpArgs false
open Go.RowKit Go.Proofs.Ytlkddmkfllnnhaa.Md Go.Proofs.Ytlkddmkfllnnhaa.PL Go.Proofs.YtlkddmkfllnnhaaW.PrintWords Go.Proofs.YtlkddmkfllnnhaaW.PrintLast Go.Proofs.YtlkddmkfllnnhaaW.PrintMore

theorem wds_take (p : List Int) : wds (p.take 64) 16 = wds p 16 := by
  unfold wds
  refine List.map_congr_left fun j hj => ?_
  have hj := List.mem_range.1 hj
  unfold word
  rw [getD_take _ _ _ (by omega), getD_take _ _ _ (by omega), getD_take _ _ _ (by omega), getD_take _ _ _ (by omega)]
theorem sch_take (p : List Int) (n : Nat) : sch (p.take 64) n = sch p n := by
  induction n with
  | zero => exact wds_take p
  | succ n ih => simp only [sch, ih]
theorem comp_take (ss p : List Int) : comp ss (p.take 64) = comp ss p := by unfold comp; rw [sch_take]
/-- the state behind m blocks -/
def takes (ss l : List Int) : Nat → List Int
  | 0 => ss
  | m + 1 => comp (takes ss l m) ((l.drop (64 * m)).take 64)
theorem takes_len (ss l : List Int) (m : Nat) : (takes ss l m).length = ss.length := by
  induction m with
  | zero => rfl
  | succ m ih => rw [takes, comp_len, ih]
theorem takes_U32 {ss : List Int} (h : U32 ss) (l : List Int) (m : Nat) : U32 (takes ss l m) := by
  induction m with
  | zero => exact h
  | succ m ih => exact comp_U32 ih _

/-- a state in memory, whatever stands behind it in its block -/
def Ax (w : World) (g t : Nat) (xs : List Int) (tl : List Value) : Prop := w.heap[g]? = some (.cells (nums .u32 xs ++ tl).toArray t (0, 0))
theorem Ax.cell {w : World} {g t : Nat} {xs : List Int} {tl : List Value} (h : Ax w g t xs tl) (j : Nat) (hj : j < xs.length) : w.cell? ⟨g, j, none⟩ = some (.int .u32 (xs.getD j 0)) := by
  rw [blk_cell h j]
  simp [nums, hj, List.getD_eq_getElem?_getD, List.getElem?_append]
theorem Ax.fr {w : World} {g t : Nat} {xs : List Int} {tl : List Value} (h : Ax w g t xs tl) (j : Nat) : w.frozen? ⟨g, j, none⟩ = false := blk_frozen h j
theorem Ax.set {w : World} {g t : Nat} {xs : List Int} {tl : List Value} (h : Ax w g t xs tl) (j : Nat) (hj : j < xs.length) (x : Int) : Ax (w.setCell ⟨g, j, none⟩ (.int .u32 x)) g t (xs.set j x) tl := by
  have := blk_set h j (.int .u32 x)
  unfold Ax
  rw [this]
  simp [nums, hj, List.set_append]
theorem Ax.far {w : World} {g t : Nat} {xs : List Int} {tl : List Value} (h : Ax w g t xs tl) {p : Addr} (hp : g ≠ p.block) (u : Value) : Ax (w.setCell p u) g t xs tl := blk_far h hp u
theorem Ax.range {w : World} {g t : Nat} {xs : List Int} {tl : List Value} (h : Ax w g t xs tl) : w.rangeAt g 0 (nums .u32 xs) := fun j v hv => by
  rw [Nat.zero_add, blk_cell h j]
  simp only [List.getElem?_toArray]
  rw [List.getElem?_append_left (List.getElem?_eq_some_iff.1 hv).1]
  exact hv

theorem eight {l : List Int} (h : l.length = 8) : ∃ a b c d e f g hh, l = [a, b, c, d, e, f, g, hh] := by
  match l, h with
  | [a, b, c, d, e, f, g, hh], _ => exact ⟨a, b, c, d, e, f, g, hh, rfl⟩
structure T1 (w0 w wr : World) (gs T gk gw : Nat) (tl : List Value) (ss ws : List Int) : Prop where
  s : Ax wr gs T ss tl
  k : Ar wr gk 55 KK
  a : Ar wr gw 55 ws
  l : ws.length = 64
  u : U32 ws
  b : Below w0.heap.size w0 wr
  kb : KeepBut w wr gs none
theorem T1.put {w0 w wr : World} {gs T gk gw : Nat} {tl : List Value} {ss ws : List Int} (h : T1 w0 w wr gs T gk gw tl ss ws) (q : w.heap.size ≤ gw ∧ w0.heap.size ≤ gw ∧ gs ≠ gw ∧ gk ≠ gw) (k : Nat) {x : Int} (hx : 0 ≤ x ∧ x < 4294967296) :
    T1 w0 w (wr.setCell ⟨gw, k, none⟩ (.int .u32 x)).drew gs T gk gw tl ss (ws.set k x) := by
  obtain ⟨hs, hk, ha, hl, hu, hb, hkb⟩ := h
  exact ⟨Ax.far hs (by simpa using q.2.2.1) _, Ar.far hk (by simpa using q.2.2.2) _, Ar.set ha k x, by rw [List.length_set]; exact hl, hu.set k hx, below_drew (below_set hb q.2.1),
    ⟨by simpa [World.setCell, World.drew] using hkb.1, fun i hi h1 h2 => (Below.heap_setCell wr ⟨gw, k, none⟩ _ i (by show i ≠ gw; omega)).trans (hkb.2 i hi h1 h2)⟩⟩
structure T2 (w0 w wr : World) (gs T gk gw gv : Nat) (tl : List Value) (ss ws vs : List Int) : Prop where
  t : T1 w0 w wr gs T gk gw tl ss ws
  v : Ar wr gv 50 vs
theorem T1.lt {w0 w wr : World} {gs T gk gw : Nat} {tl : List Value} {ss ws : List Int} (h : T1 w0 w wr gs T gk gw tl ss ws) : gs < wr.heap.size ∧ gk < wr.heap.size ∧ gw < wr.heap.size := ⟨blk_lt h.s, blk_lt h.k, blk_lt h.a⟩
theorem T1.alloc {w0 w wr : World} {gs T gk gw : Nat} {tl : List Value} {ss ws : List Int} (h : T1 w0 w wr gs T gk gw tl ss ws) (o : Obj) : T1 w0 w (wr.alloc o) gs T gk gw tl ss ws :=
  ⟨blk_alloc h.s _, blk_alloc h.k _, blk_alloc h.a _, h.l, h.u, below_alloc h.b _, keep_alloc h.kb _⟩
theorem T1.drewN {w0 w wr : World} {gs T gk gw : Nat} {tl : List Value} {ss ws : List Int} (h : T1 w0 w wr gs T gk gw tl ss ws) (n : Nat) : T1 w0 w (wr.drewN n) gs T gk gw tl ss ws :=
  ⟨h.s, h.k, h.a, h.l, h.u, pw_below_drewN h.b n, h.kb⟩
theorem T2.drewN {w0 w wr : World} {gs T gk gw gv : Nat} {tl : List Value} {ss ws vs : List Int} (h : T2 w0 w wr gs T gk gw gv tl ss ws vs) (n : Nat) : T2 w0 w (wr.drewN n) gs T gk gw gv tl ss ws vs := ⟨h.t.drewN n, h.v⟩
theorem T2.putv {w0 w wr : World} {gs T gk gw gv : Nat} {tl : List Value} {ss ws vs : List Int} (h : T2 w0 w wr gs T gk gw gv tl ss ws vs) (q : w.heap.size ≤ gv ∧ w0.heap.size ≤ gv ∧ gs ≠ gv ∧ gk ≠ gv ∧ gw ≠ gv) (k : Nat) (x : Int) :
    T2 w0 w (wr.setCell ⟨gv, k, none⟩ (.int .u32 x)) gs T gk gw gv tl ss ws (vs.set k x) := by
  obtain ⟨⟨hs, hk, ha, hl, hu, hb, hkb⟩, hv⟩ := h
  exact ⟨⟨Ax.far hs (by simpa using q.2.2.1) _, Ar.far hk (by simpa using q.2.2.2.1) _, Ar.far ha (by simpa using q.2.2.2.2) _, hl, hu, below_set hb q.2.1,
    ⟨by simpa [World.setCell] using hkb.1, fun i hi h1 h2 => (Below.heap_setCell wr ⟨gv, k, none⟩ _ i (by show i ≠ gv; omega)).trans (hkb.2 i hi h1 h2)⟩⟩, Ar.set hv k x⟩
theorem T2.puts {w0 w wr : World} {gs T gk gw gv : Nat} {tl : List Value} {ss ws vs : List Int} (h : T2 w0 w wr gs T gk gw gv tl ss ws vs) (q : w0.heap.size ≤ gs ∧ gs ≠ gk ∧ gs ≠ gw ∧ gs ≠ gv) (k : Nat) (hk8 : k < ss.length) (x : Int) :
    T2 w0 w (wr.setCell ⟨gs, k, none⟩ (.int .u32 x)).drew gs T gk gw gv tl (ss.set k x) ws vs := by
  obtain ⟨⟨hs, hk, ha, hl, hu, hb, hkb⟩, hv⟩ := h
  exact ⟨⟨Ax.set hs k hk8 x, Ar.far hk (by simpa using q.2.1.symm) _, Ar.far ha (by simpa using q.2.2.1.symm) _, hl, hu, below_drew (below_set hb q.1), KeepBut.set_ hkb k _⟩, Ar.far hv (by simpa using q.2.2.2.symm) _⟩

set_option maxHeartbeats 8000000 in
set_option maxRecDepth 100000 in
theorem take_any (w0 w : World) (gs T : Nat) (tl : List Value) (ss0 : List Int) (A : Option Addr) (c : Nat) (l : List Int) (hs : Ax w gs T ss0 tl) (hs8 : ss0.length = 8) (hsu : U32 ss0) (hg0 : w0.heap.size ≤ gs) (hb0 : Below w0.heap.size w0 w)
    (hC : ∀ wr, Below w0.heap.size w0 wr → KeepBut w wr gs none → (Kd.int .u8).C wr A l.length l) (hc : l.length ≤ c) (hlm : l.length ≤ 281474976710656) (hb : B8 l) :
    Calls Try.prog 28 #[.pointer (some ⟨gs, 0, none⟩), .slice A l.length c] w fun e w' => e = .returned (.tuple #[]) ∧ Ax w' gs T (takes ss0 l (l.length / 64)) tl ∧ Below w0.heap.size w0 w' ∧ KeepBut w w' gs none := by
  have HS := Aside0.mk hs
  have HS8 := Aside0.mk hs8
  have HSU := Aside0.mk hsu
  have HB0 := Aside0.mk hb0
  have HC := Aside0.mk hC
  have HB8 := Aside0.mk hb
  have hgl := blk_lt hs
  clear hs hs8 hsu hb0 hC hb
  go_enter Try.func28, Try.ntmps28
  go_upto_region 1 with (first | (go_at_call 41; refine (numbers_any _).mono ?_; rintro e w1 ⟨rfl, hbw⟩; have HBW := Aside0.mk hbw; clear hbw) | (refine wpList_store_row rfl 55 (.tmp 4) (.tmp 19) rfl w1.heap.size KA rfl rfl 55 _ (heap_alloc_new w1 _) (by kernel_rfl) (by kernel_rfl) (by kernel_rfl) ?_; rw [World.setRow_alloc_new]))
  go_wp2
  have HT0 : Aside0 (T1 w0 w ((w1.alloc (.cells KA 55)).alloc (.cells (nums .u32 (List.replicate 64 0)).toArray 55)) gs T w1.heap.size (w1.heap.size + 1) tl ss0 (List.replicate 64 0)) := by
    have hbw := HBW.out
    refine ⟨⟨blk_alloc (blk_alloc ((hbw.block gs hgl).trans HS.out) _) _, blk_alloc (heap_alloc_new w1 _) _, ?_, rfl, fun x hx => by have := List.eq_of_mem_replicate hx; omega, below_alloc (below_alloc (below_then HB0.out HB0.out.size hbw) _) _, keep_alloc (keep_alloc (KeepBut.of_below hbw gs none) _) _⟩⟩
    have := heap_alloc_new (w1.alloc (.cells KA 55)) (.cells (nums .u32 (List.replicate 64 0)).toArray 55)
    rwa [size_alloc] at this
  have hsz := HBW.out.size
  have hsz0 := HB0.out.size
  have HQ : Aside0 (w.heap.size ≤ w1.heap.size ∧ w0.heap.size ≤ w1.heap.size ∧ gs < w1.heap.size) := ⟨⟨by omega, by omega, by omega⟩⟩
  clear HBW HS hsz hsz0
  obtain ⟨gk, hgk⟩ : ∃ g, w1.heap.size = g := ⟨_, rfl⟩
  rw [hgk] at HT0 HQ ⊢
  clear hgk
  go_loopw [1] (fun v wr => ∃ (m : Nat) (ws : List Int) (A' : Option Addr) (c' : Nat), v = .slice A' (l.drop (64 * m)).length c' ∧ 64 * m ≤ l.length ∧ (l.drop (64 * m)).length ≤ c' ∧ Aside0 (T1 w0 w wr gs T gk (gk + 1) tl (takes ss0 l m) ws) ∧ Aside0 (∀ W, (Kd.int .u8).C W A l.length l → (Kd.int .u8).C W A' (l.drop (64 * m)).length (l.drop (64 * m)))) (fun v _ => match v with | .slice _ n _ => n | _ => 0)
  case atStart => exact ⟨0, List.replicate 64 0, A, c, rfl, by omega, hc, HT0, ⟨fun W h => h⟩⟩
  case round =>
    clear HT0
    obtain ⟨m, ws, A', c', rfl, hm, hc', HT, HA⟩ := hrel
    obtain ⟨q, hq⟩ : ∃ q, l.drop (64 * m) = q := ⟨_, rfl⟩
    rw [hq] at HA hc' ⊢
    have hql : q.length + 64 * m = l.length := by rw [← hq, List.length_drop]; omega
    have HQ2 := Aside0.mk hq
    clear hq
    by_cases hbig : 64 ≤ q.length
    · have HCq := Aside0.mk (fun wr h1 h2 => HA.out wr (HC.out wr h1 h2))
      obtain ⟨ad, rfl⟩ := C_some (HCq.out wr HT.out.b HT.out.kb) (by omega)
      have hbd : decide ((64 : Int) ≤ (q.length : Int)) = true := decide_eq_true (by omega)
      go_wp2
      clear hbd
      obtain ⟨wo, rfl⟩ : ∃ wo : World, wo = wr := ⟨_, rfl⟩
      obtain ⟨ss, hss⟩ : ∃ ss, takes ss0 l m = ss := ⟨_, rfl⟩
      have hsl : ss.length = 8 := by rw [← hss, takes_len]; exact HS8.out
      rw [hss] at HT
      have HSS := Aside0.mk hss
      have HSL := Aside0.mk hsl
      clear hss hsl
      have hq64 : 64 ≤ q.length := hbig
      go_loopw [25] (fun i wr => ∃ (k : Nat) (ws : List Int), i = .int .i64 (k : Int) ∧ k ≤ 16 ∧ Aside0 (T1 w0 w wr gs T gk (gk + 1) tl ss ws) ∧ Aside0 (ws.take k = wds q k)) (fun i _ => 16 - (intOf i).toNat)
      case atStart => exact ⟨0, ws, rfl, by omega, HT, ⟨rfl⟩⟩
      case round =>
        clear HT
        obtain ⟨k, ws, rfl, hk, HT, HW⟩ := hrel
        by_cases hlt : k < 16
        · have HCr := HCq.out wr HT.out.b HT.out.kb
          have c0 := u8_cell HCr (4 * k) (by omega)
          have c1 := u8_cell1 HCr (4 * k + 1) (by omega) (by omega)
          have c2 := u8_cell1 HCr (4 * k + 2) (by omega) (by omega)
          have c3 := u8_cell1 HCr (4 * k + 3) (by omega) (by omega)
          clear HCr
          have hwl := HT.out.l
          have d0 := HT.out.a.cell k (by omega)
          have d1 := HT.out.a.fr k
          clear hwl
          obtain ⟨x0, hx0⟩ : ∃ x, q.getD (4 * k) 0 = x := ⟨_, rfl⟩
          rw [hx0] at c0
          have HX0 := Aside0.mk hx0
          clear hx0
          obtain ⟨x1, hx1⟩ : ∃ x, q.getD (4 * k + 1) 0 = x := ⟨_, rfl⟩
          rw [hx1] at c1
          have HX1 := Aside0.mk hx1
          clear hx1
          obtain ⟨x2, hx2⟩ : ∃ x, q.getD (4 * k + 2) 0 = x := ⟨_, rfl⟩
          rw [hx2] at c2
          have HX2 := Aside0.mk hx2
          clear hx2
          obtain ⟨x3, hx3⟩ : ∃ x, q.getD (4 * k + 3) 0 = x := ⟨_, rfl⟩
          rw [hx3] at c3
          have HX3 := Aside0.mk hx3
          clear hx3
          obtain ⟨y0, hy0⟩ : ∃ x, ws.getD k 0 = x := ⟨_, rfl⟩
          rw [hy0] at d0
          clear hy0
          have g4 : 0 ≤ (k : Int) := by omega
          have j4 : (k : Int) < 64 := by omega
          have f0 : IntKind.i64.wrap (4 * (k : Int)) = 4 * (k : Int) := IntWalk.i64_in _ (by omega)
          have g0 : 0 ≤ 4 * (k : Int) := by omega
          have i0 : (4 * (k : Int)).toNat = 4 * k := by omega
          have j0 : 4 * (k : Int) < (q.length : Int) := by omega
          have f1 : IntKind.i64.wrap (4 * (k : Int) + 1) = 4 * (k : Int) + 1 := IntWalk.i64_in _ (by omega)
          have g1 : 0 ≤ 4 * (k : Int) + 1 := by omega
          have i1 : (4 * (k : Int) + 1).toNat = 4 * k + 1 := by omega
          have j1 : 4 * (k : Int) + 1 < (q.length : Int) := by omega
          have f2 : IntKind.i64.wrap (4 * (k : Int) + 2) = 4 * (k : Int) + 2 := IntWalk.i64_in _ (by omega)
          have g2 : 0 ≤ 4 * (k : Int) + 2 := by omega
          have i2 : (4 * (k : Int) + 2).toNat = 4 * k + 2 := by omega
          have j2 : 4 * (k : Int) + 2 < (q.length : Int) := by omega
          have f3 : IntKind.i64.wrap (4 * (k : Int) + 3) = 4 * (k : Int) + 3 := IntWalk.i64_in _ (by omega)
          have g3 : 0 ≤ 4 * (k : Int) + 3 := by omega
          have i3 : (4 * (k : Int) + 3).toNat = 4 * k + 3 := by omega
          have j3 : 4 * (k : Int) + 3 < (q.length : Int) := by omega
          go_wp2
          go_still_tail 35, (by kernel_rfl)
          clear f0 f1 f2 f3 g0 g1 g2 g3 i0 i1 i2 i3 j0 j1 j2 j3
          change wpList _ _ _ _ _ wr.drew
          go_wp2
          refine ⟨⟨k + 1, ws.set k (word q k), by go_num, by omega, ⟨?_⟩, ⟨?_⟩⟩, by simp [intOf]; omega⟩
          · have := HT.out.put ⟨by have := HQ.out; omega, by have := HQ.out; omega, by have := HQ.out; omega, by omega⟩ k (x := word q k) (bits_r _ _ _)
            unfold word at this ⊢
            rw [HX0.out, HX1.out, HX2.out, HX3.out] at this ⊢
            exact this
          · rw [take_set ws k _ (by rw [HT.out.l]; omega), HW.out, wds_succ]

        · have hkk : k = 16 := by omega
          subst hkk
          rw [show ((16 : Nat) : Int) = 16 from rfl]
          go_wp2
          obtain ⟨wo2, rfl⟩ : ∃ wo : World, wo = wr := ⟨_, rfl⟩
          go_loopw [7] (fun i wr => ∃ (j : Nat) (ws : List Int), i = .int .i64 (j : Int) ∧ 16 ≤ j ∧ j ≤ 64 ∧ Aside0 (T1 w0 w wr gs T gk (gk + 1) tl ss ws) ∧ Aside0 (ws.take j = sch q (j - 16))) (fun i _ => 64 - (intOf i).toNat)
          case atStart => exact ⟨16, ws, rfl, by omega, by omega, HT, HW⟩
          case round =>
            clear HT HW hk hlt
            obtain ⟨j, ws, rfl, hj16, hj, HT, HW⟩ := hrel
            by_cases hlt : j < 64
            · have hwl := HT.out.l
              have c0 := HT.out.a.cell (j - 15) (by omega)
              have c1 := HT.out.a.cell (j - 2) (by omega)
              have c2 := HT.out.a.cell (j - 16) (by omega)
              have c3 := HT.out.a.cell (j - 7) (by omega)
              have d0 := HT.out.a.cell j (by omega)
              have d1 := HT.out.a.fr j
              have r0 := HT.out.u.getD (j - 15)
              have r1 := HT.out.u.getD (j - 2)
              clear hwl
              obtain ⟨x0, hx0⟩ : ∃ x, ws.getD (j - 15) 0 = x := ⟨_, rfl⟩
              obtain ⟨x1, hx1⟩ : ∃ x, ws.getD (j - 2) 0 = x := ⟨_, rfl⟩
              obtain ⟨x2, hx2⟩ : ∃ x, ws.getD (j - 16) 0 = x := ⟨_, rfl⟩
              obtain ⟨x3, hx3⟩ : ∃ x, ws.getD (j - 7) 0 = x := ⟨_, rfl⟩
              obtain ⟨x4, hx4⟩ : ∃ x, ws.getD j 0 = x := ⟨_, rfl⟩
              rw [hx0] at c0 r0
              rw [hx1] at c1 r1
              rw [hx2] at c2
              rw [hx3] at c3
              rw [hx4] at d0
              have HX := Aside0.mk (And.intro hx0 (And.intro hx1 (And.intro hx2 hx3)))
              clear hx0 hx1 hx2 hx3 hx4
              have R0 := Aside0.mk r0
              have R1 := Aside0.mk r1
              clear r0 r1
              have g4 : 0 ≤ (j : Int) := by omega
              have j4 : (j : Int) < 64 := by omega
              have f0 : IntKind.i64.wrap ((j : Int) - 16) = (j : Int) - 16 := IntWalk.i64_in _ (by omega)
              have f1 : IntKind.i64.wrap ((j : Int) - 7) = (j : Int) - 7 := IntWalk.i64_in _ (by omega)
              have f2 : IntKind.i64.wrap ((j : Int) - 15) = (j : Int) - 15 := IntWalk.i64_in _ (by omega)
              have f3 : IntKind.i64.wrap ((j : Int) - 2) = (j : Int) - 2 := IntWalk.i64_in _ (by omega)
              have l0 : 16 ≤ (j : Int) := by omega
              have l1 : 7 ≤ (j : Int) := by omega
              have l2 : 15 ≤ (j : Int) := by omega
              have l3 : 2 ≤ (j : Int) := by omega
              have h0 : 0 ≤ (j : Int) - 16 := by omega
              have h1 : 0 ≤ (j : Int) - 7 := by omega
              have h2 : 0 ≤ (j : Int) - 15 := by omega
              have h3 : 0 ≤ (j : Int) - 2 := by omega
              have k0 : (j : Int) - 16 < 64 := by omega
              have k1 : (j : Int) - 7 < 64 := by omega
              have k2 : (j : Int) - 15 < 64 := by omega
              have k3 : (j : Int) - 2 < 64 := by omega
              have i0 : ((j : Int) - 16).toNat = j - 16 := by omega
              have i1 : ((j : Int) - 7).toNat = j - 7 := by omega
              have i2 : ((j : Int) - 15).toNat = j - 15 := by omega
              have i3 : ((j : Int) - 2).toNat = j - 2 := by omega
              go_wp2
              go_quiet (fail)
              go_wp2_with (first | (go_at_call 42; (with_reducible refine (turn7 _ _ R0.out.1 R0.out.2).mono ?_); rintro e w' ⟨rfl, rfl⟩) | (go_at_call 42; (with_reducible refine (turn18 _ _ R0.out.1 R0.out.2).mono ?_); rintro e w' ⟨rfl, rfl⟩) | (go_at_call 42; (with_reducible refine (turn17 _ _ R1.out.1 R1.out.2).mono ?_); rintro e w' ⟨rfl, rfl⟩) | (go_at_call 42; (with_reducible refine (turn19 _ _ R1.out.1 R1.out.2).mono ?_); rintro e w' ⟨rfl, rfl⟩))
              have HTq := Aside0.mk (HT.out.drewN nq)
              have c2q : (wr.drewN nq).cell? ⟨gk + 1, j - 16, none⟩ = some (.int .u32 x2) := c2
              have c3q : (wr.drewN nq).cell? ⟨gk + 1, j - 7, none⟩ = some (.int .u32 x3) := c3
              have d0q : (wr.drewN nq).cell? ⟨gk + 1, j, none⟩ = some (.int .u32 x4) := d0
              have d1q : (wr.drewN nq).frozen? ⟨gk + 1, j, none⟩ = false := d1
              have HWL := Aside0.mk HT.out.l
              clear c0 c1 c2 c3 d0 d1 HT
              generalize wr.drewN nq = wq at *
              go_still_tail 15, (by kernel_rfl)
              clear f0 f1 f2 f3 h0 h1 h2 h3 k0 k1 k2 k3 i0 i1 i2 i3 l0 l1 l2 l3
              change wpList _ _ _ _ _ wq.drew
              go_wp2
              refine ⟨⟨j + 1, ws.set j (nxt (sch q (j - 16)) j), by go_num, by omega, by omega, ⟨?_⟩, ⟨?_⟩⟩, by simp [intOf]; omega⟩
              · have := HTq.out.put ⟨by have := HQ.out; omega, by have := HQ.out; omega, by have := HQ.out; omega, by omega⟩ j (x := nxt (sch q (j - 16)) j) (mod_r _)
                unfold nxt sg0 sg1 at this ⊢
                rw [← HW.out, getD_take _ _ _ (by omega), getD_take _ _ _ (by omega), getD_take _ _ _ (by omega), getD_take _ _ _ (by omega), HX.out.1, HX.out.2.1, HX.out.2.2.1, HX.out.2.2.2] at this ⊢
                exact this
              · rw [take_set ws j _ (by rw [HWL.out]; omega), HW.out, show j + 1 - 16 = (j - 16) + 1 from by omega, sch, show j - 16 + 16 = j from by omega]
            · have hjj : j = 64 := by omega
              subst hjj
              rw [show ((64 : Nat) : Int) = 64 from rfl]
              have HWS := Aside0.mk (show ws = sch q 48 from by rw [← HW.out, List.take_of_length_le (by rw [HT.out.l]; omega)])
              have HWL := Aside0.mk HT.out.l
              clear HW
              obtain ⟨s0, s1, s2, s3, s4, s5, s6, s7, he⟩ := eight HSL.out
              have hrg := HT.out.s.range
              rw [he] at hrg
              have HRG := Aside0.mk (show wr.rangeAt gs 0 [.int .u32 s0, .int .u32 s1, .int .u32 s2, .int .u32 s3, .int .u32 s4, .int .u32 s5, .int .u32 s6, .int .u32 s7] from hrg)
              have HE := Aside0.mk he
              clear he hrg
              go_wp2_with (refine wpList_load_mid rfl 50 (.tmp 108) rfl gs 0 rfl _ _ HRG.out Try.underlying50 rfl (by kernel_rfl) ?_)
              obtain ⟨gv, hgv⟩ : ∃ g, wr.heap.size = g := ⟨_, rfl⟩
              have HT2 : Aside0 (T2 w0 w (wr.alloc (.cells (nums .u32 [s0, s1, s2, s3, s4, s5, s6, s7]).toArray 50)) gs T gk (gk + 1) gv tl ss ws [s0, s1, s2, s3, s4, s5, s6, s7]) := ⟨⟨HT.out.alloc _, by rw [← hgv]; exact heap_alloc_new wr _⟩⟩
              have HV : Aside0 ((w.heap.size ≤ gv ∧ w0.heap.size ≤ gv) ∧ gs ≠ gv ∧ gk ≠ gv ∧ gk + 1 ≠ gv) := ⟨⟨by have := HT.out.lt; have := HQ.out; omega, by have := HT.out.lt; omega, by have := HT.out.lt; omega, by have := HT.out.lt; omega⟩⟩
              rw [hgv]
              clear hgv HRG HT
              obtain ⟨wo3, rfl⟩ : ∃ wo : World, wo = wr := ⟨_, rfl⟩
              go_loopw [110] (fun i wr => ∃ (n : Nat) (a b c d e f g hh : Int), i = .int .i64 (n : Int) ∧ n ≤ 64 ∧ Aside0 (T2 w0 w wr gs T gk (gk + 1) gv tl ss ws [a, b, c, d, e, f, g, hh]) ∧ Aside0 ([a, b, c, d, e, f, g, hh] = rnds [s0, s1, s2, s3, s4, s5, s6, s7] ws n) ∧ Aside0 (U32 [a, b, c, d, e, f, g, hh])) (fun i _ => 64 - (intOf i).toNat)
              case atStart => exact ⟨0, s0, s1, s2, s3, s4, s5, s6, s7, rfl, by omega, HT2, ⟨rfl⟩, ⟨by rw [← HE.out, ← HSS.out]; exact takes_U32 HSU.out _ _⟩⟩
              case round =>
                clear HT2
                obtain ⟨n, a, b, c, d, e, f, g, hh, rfl, hn, HT, HR, HU⟩ := hrel
                by_cases hlt : n < 64
                · have c0 := HT.out.v.cell 0 (by simp)
                  have c1 := HT.out.v.cell 1 (by simp)
                  have c2 := HT.out.v.cell 2 (by simp)
                  have c3 := HT.out.v.cell 3 (by simp)
                  have c4 := HT.out.v.cell 4 (by simp)
                  have c5 := HT.out.v.cell 5 (by simp)
                  have c6 := HT.out.v.cell 6 (by simp)
                  have c7 := HT.out.v.cell 7 (by simp)
                  simp only [List.getD_cons_zero, List.getD_cons_succ] at c0 c1 c2 c3 c4 c5 c6 c7
                  have z0 := HT.out.v.fr 0
                  have z1 := HT.out.v.fr 1
                  have z2 := HT.out.v.fr 2
                  have z3 := HT.out.v.fr 3
                  have z4 := HT.out.v.fr 4
                  have z5 := HT.out.v.fr 5
                  have z6 := HT.out.v.fr 6
                  have z7 := HT.out.v.fr 7
                  have ck := HT.out.t.k.cell n (by show n < 64; omega)
                  have cw := HT.out.t.a.cell n (by rw [HWL.out]; omega)
                  obtain ⟨kn, hkn⟩ : ∃ x, KK.getD n 0 = x := ⟨_, rfl⟩
                  obtain ⟨wn, hwn⟩ : ∃ x, ws.getD n 0 = x := ⟨_, rfl⟩
                  rw [hkn] at ck
                  rw [hwn] at cw
                  have HKW := Aside0.mk (And.intro hkn hwn)
                  clear hkn hwn
                  have ra := Aside0.mk (HU.out a (by simp))
                  have re := Aside0.mk (HU.out e (by simp))
                  have g4 : 0 ≤ (n : Int) := by omega
                  have j4 : (n : Int) < 64 := by omega
                  go_wp2
                  go_quiet (fail)
                  go_wp2_with fail
                  go_quiet ((first | (go_at_call 42; with_reducible exact quiet_more (turn6 _ _ re.out.1 re.out.2)) | (go_at_call 42; with_reducible exact quiet_more (turn11 _ _ re.out.1 re.out.2)) | (go_at_call 42; with_reducible exact quiet_more (turn25 _ _ re.out.1 re.out.2))))
                  go_wp2_with fail
                  go_quiet ((first | (go_at_call 42; with_reducible exact quiet_more (turn2 _ _ ra.out.1 ra.out.2)) | (go_at_call 42; with_reducible exact quiet_more (turn13 _ _ ra.out.1 ra.out.2)) | (go_at_call 42; with_reducible exact quiet_more (turn22 _ _ ra.out.1 ra.out.2))))
                  go_wp2_with fail
                  have hq5 : (w.heap.size ≤ gv ∧ w0.heap.size ≤ gv ∧ gs ≠ gv ∧ gk ≠ gv ∧ gk + 1 ≠ gv) := ⟨HV.out.1.1, HV.out.1.2, HV.out.2⟩
                  refine ⟨⟨n + 1, (one e f g hh kn wn + two a b c) % 4294967296, a, b, c, (d + one e f g hh kn wn) % 4294967296, e, f, g, by go_num, by omega, ⟨?_⟩, ⟨?_⟩, ⟨?_⟩⟩, by simp [intOf]; omega⟩
                  · exact ((((((((HT.out.drewN _).putv hq5 0 _).putv hq5 1 a).putv hq5 2 b).putv hq5 3 c).putv hq5 4 _).putv hq5 5 e).putv hq5 6 f).putv hq5 7 g
                  · rw [rnds, ← HR.out, HKW.out.1, HKW.out.2]
                    rfl
                  · intro x hx
                    simp only [List.mem_cons, List.not_mem_nil, or_false] at hx
                    rcases hx with rfl | rfl | rfl | rfl | rfl | rfl | rfl | rfl
                    · exact mod_r _
                    · exact HU.out _ (by simp)
                    · exact HU.out _ (by simp)
                    · exact HU.out _ (by simp)
                    · exact mod_r _
                    · exact HU.out _ (by simp)
                    · exact HU.out _ (by simp)
                    · exact HU.out _ (by simp)
                · have hnn : n = 64 := by omega
                  subst hnn
                  rw [show ((64 : Nat) : Int) = 64 from rfl]
                  go_wp2
                  have HVS := Aside0.mk (show [a, b, c, d, e, f, g, hh] = rnds ss (sch q 48) 64 from by rw [HR.out, HWS.out, HE.out])
                  obtain ⟨vs, hvs⟩ : ∃ vs, [a, b, c, d, e, f, g, hh] = vs := ⟨_, rfl⟩
                  have hvl : vs.length = 8 := by rw [← hvs]; rfl
                  rw [hvs] at HT HVS
                  have HVL := Aside0.mk hvl
                  clear hvs HR HU hvl HE
                  obtain ⟨wo4, rfl⟩ : ∃ wo : World, wo = wr := ⟨_, rfl⟩
                  go_loopw [192] (fun i wr => ∃ (n : Nat), i = .int .i64 (n : Int) ∧ n ≤ 8 ∧ Aside0 (T2 w0 w wr gs T gk (gk + 1) gv tl (adds ss vs n) ws vs)) (fun i _ => 8 - (intOf i).toNat)
                  case atStart => exact ⟨0, rfl, by omega, HT⟩
                  case round =>
                    clear HT
                    obtain ⟨n, rfl, hn, HT⟩ := hrel
                    by_cases hlt : n < 8
                    · have c0 := HT.out.t.s.cell n (by rw [adds_len, HSL.out]; omega)
                      have c1 := HT.out.v.cell n (by rw [HVL.out]; omega)
                      have f0 := HT.out.t.s.fr n
                      obtain ⟨xn, hxn⟩ : ∃ x, (adds ss vs n).getD n 0 = x := ⟨_, rfl⟩
                      obtain ⟨vn, hvn⟩ : ∃ x, vs.getD n 0 = x := ⟨_, rfl⟩
                      rw [hxn] at c0
                      rw [hvn] at c1
                      have HXV := Aside0.mk (And.intro hxn hvn)
                      clear hxn hvn
                      have g4 : 0 ≤ (n : Int) := by omega
                      have j4 : (n : Int) < 8 := by omega
                      go_wp2
                      go_still_tail 11, (by kernel_rfl)
                      change wpList _ _ _ _ _ wr.drew
                      go_wp2
                      refine ⟨⟨n + 1, by go_num, by omega, ⟨?_⟩⟩, by simp [intOf]; omega⟩
                      have := HT.out.puts ⟨by omega, by have := HQ.out; omega, by have := HQ.out; omega, HV.out.2.1⟩ n (by rw [adds_len, HSL.out]; omega) ((xn + vn) % 4294967296)
                      rw [adds, HXV.out.1, HXV.out.2]
                      exact this
                    · have hnn : n = 8 := by omega
                      subst hnn
                      rw [show ((8 : Nat) : Int) = 8 from rfl]
                      have hcm : adds ss vs 8 = takes ss0 l (m + 1) := by rw [HVS.out, takes, HSS.out, HQ2.out, comp_take]; rfl
                      rw [hcm] at HT
                      clear hcm
                      obtain ⟨i0, hi0, _, hsz0, _⟩ := info_parts info5
                      obtain ⟨A2, hcut, hA2, _⟩ := print_drop_of (P := Try.prog) (Value.int .u8) 0 22 5 .i64 Try.underlying22 hi0 hsz0 (some ad) c' q (64 : Int) (by omega) (by omega) hc'
                      have HA2 : Aside0 (∀ W : World, (Kd.int .u8).C W (some ad) q.length q → (Kd.int .u8).C W A2 (q.drop 64).length (q.drop 64)) := ⟨fun W hW => Kd.C_of_reads (h1 := fun _ => rfl) (hA2 W (Kd.reads_of_C hW))⟩
                      have hdd : q.drop 64 = l.drop (64 * (m + 1)) := by rw [← HQ2.out, List.drop_drop]; congr 1
                      have hcd : (l.drop (64 * (m + 1))).length ≤ c' - 64 := by rw [← hdd, List.length_drop]; omega
                      rw [show ((64 : Int)).toNat = 64 from rfl, hdd] at hcut
                      rw [hdd] at HA2
                      have hnm : (l.drop (64 * (m + 1))).length < q.length := by rw [← hdd, List.length_drop]; omega
                      clear hA2 hi0 hsz0 hdd
                      obtain ⟨q2, hq2⟩ : ∃ q, l.drop (64 * (m + 1)) = q := ⟨_, rfl⟩
                      rw [hq2] at hcut
                      have HQ3 := Aside0.mk hq2
                      clear hq2
                      go_wp2
                      rw [← HQ3.out]
                      exact ⟨⟨m + 1, ws, A2, c' - 64, rfl, by omega, hcd, ⟨HT.out.t⟩, ⟨fun W hW => HA2.out W (HA.out W hW)⟩⟩, hnm⟩
    · have hbd : decide ((64 : Int) ≤ (q.length : Int)) = false := decide_eq_false (by omega)
      go_wp2
      have hmm : m = l.length / 64 := by omega
      go_end0
      exact ⟨rfl, hmm ▸ HT.out.s, HT.out.b, HT.out.kb⟩
end Go.Proofs.Ytlkddmkfllnnhaa.Dg
