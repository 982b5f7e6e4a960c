/- pantryref26: DecodeReply. Own work. -/
import Derived.Test.YtoblfdloakkmmaaRfI
import Derived.Test.YtoblfdloakkmmaaRdL
import Derived.Lib.Hide
namespace Go.Proofs.Ytoblfdloakkmmaa.Rf
set_option linter.unusedVariables false
set_option linter.unusedSimpArgs false
open Go.RowKit Go.Proofs.Ytoblfdloakkmmaa.Mp Go.Proofs.Ytoblfdloakkmmaa.PL Go.Proofs.Ytoblfdloakkmmaa.Rd Go.Proofs.YtoblfdloakkmmaaW.PrintWords Go.Proofs.YtoblfdloakkmmaaW.PrintLast Go.Proofs.YtoblfdloakkmmaaW.PrintMore
/-- what holds while a Reply's paths are read -/
structure K3 (w wr : World) (g gO : Nat) (E n : Int) (vP : Value) (ts : List ByteArray) (l : List Int) (b : Bool) : Prop where
  obj : wr.heap[gO]? = some (.cells #[.int .i64 E, vP, .string ⟨#[]⟩, .int .i64 n] 48 (0, 0))
  row : Kd.string.R 55 wr w.heap.size (fun _ => True) vP ts
  rd : RS 78 w wr g l b
  b8 : B8 l
  bel : Below w.heap.size w wr
  hO : w.heap.size ≤ gO
theorem K3.ne {w wr : World} {g gO : Nat} {E n : Int} {vP : Value} {l : List Int} {ts : List ByteArray} {b : Bool} (h : K3 w wr g gO E n vP ts l b) : gO ≠ g := by
  obtain ⟨cs, hg⟩ := h.rd.blk
  exact blk_ne h.obj hg (by decide)
theorem K3.drew {w wr : World} {g gO : Nat} {E n : Int} {vP : Value} {l : List Int} {ts : List ByteArray} {b : Bool} (h : K3 w wr g gO E n vP ts l b) : K3 w wr.drew g gO E n vP ts l b :=
  ⟨h.obj, Kd.R_drew h.row, rs_drew h.rd, h.b8, below_drew h.bel, h.hO⟩
theorem K3.step {w wr w2 : World} {g gO : Nat} {E n : Int} {vP : Value} {l l2 : List Int} {ts : List ByteArray} {b b2 : Bool} (h : K3 w wr g gO E n vP ts l b) (hS : RS 78 w w2 g l2 b2) (hb : B8 l2) (hK : KeepBut wr w2 g none) : K3 w w2 g gO E n vP ts l2 b2 := by
  obtain ⟨cs, hg⟩ := h.rd.blk
  exact ⟨hK.blk h.obj h.ne (by simp), Kd.R_drop (Kd.R_keep (Kd.R_types h.row hg (by decide)) hK (fun _ hk => hk.2)), hS, hb, rs_below hS, h.hO⟩
theorem K3.put {w wr w2 : World} {g gO : Nat} {E n : Int} {vP vP2 : Value} {l : List Int} {ts ts2 : List ByteArray} {b : Bool} (h : K3 w wr g gO E n vP ts l b) (hr : Kd.string.R 55 w2 w.heap.size (fun _ => True) vP2 ts2) (hg : wr.grownBy w2 vP.ownBlock) (hB : Below w.heap.size w w2) :
    K3 w (w2.setCell ⟨gO, 1, none⟩ vP2) g gO E n vP2 ts2 l b := by
  obtain ⟨cs, hgb⟩ := h.rd.blk
  have hne1 : some gO ≠ vP.ownBlock := Kd.R_ne h.row h.obj (by decide)
  have hne2 : some g ≠ vP.ownBlock := Kd.R_ne h.row hgb (by decide)
  have ho := blk_grown h.obj hg hne1
  refine ⟨by simpa using blk_set ho 1 vP2, Kd.R_set hr ho (by decide) 1 vP2, (h.rd.grown hg hne2 hB).far h.hO (fun e => h.ne e.symm) vP2, h.b8, below_set hB h.hO, h.hO⟩
theorem K3.err {w wr : World} {g gO : Nat} {E n : Int} {vP : Value} {l : List Int} {ts : List ByteArray} {b : Bool} (h : K3 w wr g gO E n vP ts l b) (E2 : Int) : K3 w (wr.setCell ⟨gO, 0, none⟩ (.int .i64 E2)) g gO E2 n vP ts l b :=
  ⟨by simpa using blk_set h.obj 0 (.int .i64 E2), Kd.R_set h.row h.obj (by decide) 0 _, h.rd.far h.hO (fun e => h.ne e.symm) _, h.b8, below_set h.bel h.hO, h.hO⟩
set_option maxHeartbeats 400000 in
theorem ref_rep_err (w : World) (A : Option Addr) (c : Nat) (l : List Int) (e : Int) (he : e ≠ 0)
    (HO : Calls Try.prog 34 #[.slice A l.length c, .bool true] (w.alloc z48) (openE (w.alloc z48) e)) :
    Calls Try.prog 19 #[.slice A l.length c] w fun e_ w' => e_ = .returned (.tuple #[.agg #[.int .i64 0, .slice none 0 0, .string ⟨#[]⟩, .int .i64 0], .int .i64 0, .int .i64 e]) ∧ Below w.heap.size w w' := by
  have HO' := Aside0.mk HO
  clear HO
  have hne : (e != 0) = true := by simpa using he
  go_enter Try.func19, Try.ntmps19
  go_wp2_with (go_at_call 34; refine HO'.out.mono ?_; rintro e_ w1 ⟨rfl, hb⟩; have hblk : w1.heap[w.heap.size]? = some z48 := (hb.block w.heap.size (by simp)).trans (heap_alloc_new w _); have HBLK := Aside0.mk hblk; obtain ⟨⟨hc0, hc1, hc2, hc3⟩, hf0, hf1, hf2, hf3⟩ := cells4 hblk; have HB := Aside0.mk (below_then (below_alloc (Below.refl _ w) _) (by simp) hb : Below w.heap.size w w1); clear hb HO' hblk)
  have h3 := four HBLK.out (.int .i64 0) (.slice none 0 0) (.string ⟨#[]⟩) (.int .i64 0)
  have hb3 : Below w.heap.size w ((((w1.setCell ⟨w.heap.size, 0, none⟩ (.int .i64 0)).setCell ⟨w.heap.size, 1, none⟩ (.slice none 0 0)).setCell ⟨w.heap.size, 2, none⟩ (.string ⟨#[]⟩)).setCell ⟨w.heap.size, 3, none⟩ (.int .i64 0)) := below_set (below_set (below_set (below_set HB.out (Nat.le_refl _)) (Nat.le_refl _)) (Nat.le_refl _)) (Nat.le_refl _)
  generalize ((((w1.setCell ⟨w.heap.size, 0, none⟩ (.int .i64 0)).setCell ⟨w.heap.size, 1, none⟩ (.slice none 0 0)).setCell ⟨w.heap.size, 2, none⟩ (.string ⟨#[]⟩)).setCell ⟨w.heap.size, 3, none⟩ (.int .i64 0)) = w3 at *
  obtain ⟨⟨g0, g1, g2, g3⟩, _, _, _, _⟩ := cells4 h3
  exact bodyPost_ret (v := .tuple #[.agg #[.int .i64 0, .slice none 0 0, .string ⟨#[]⟩, .int .i64 0], .int .i64 0, .int .i64 e]) (by simp [results, Try.results19, go_sem, g0, g1, g2, g3]) rfl ⟨rfl, hb3⟩
def refRPost (w : World) (n : Int) (p : List Int) (e_ : Ending) (w' : World) : Prop :=
  if (refRep p).1 = true then e_ = .returned (.tuple #[.agg #[.int .i64 0, .slice none 0 0, .string ⟨#[]⟩, .int .i64 0], .int .i64 0, .int .i64 3]) ∧ Below w.heap.size w w'
  else ∃ vP, e_ = .returned (.tuple #[.agg #[.int .i64 (refRep p).2.1, vP, .string (refRep p).2.2.2.2, .int .i64 (refRep p).2.2.1], .int .i64 n, .int .i64 0]) ∧ Kd.string.R 55 w' w.heap.size (fun _ => True) vP (refRep p).2.2.2.1 ∧ Below w.heap.size w w'
theorem res19 {w wa wr : World} (hwa : w.alloc z48 = wa) (h : Below wa.heap.size wa wr) :
    wr.heap[w.heap.size]? = some z48 ∧ Below w.heap.size w wr := by
  subst hwa
  exact ⟨(h.block w.heap.size (by simp)).trans (heap_alloc_new w _), below_then (below_alloc (Below.refl _ w) _) (by simp) h⟩
set_option maxHeartbeats 1000000 in
theorem ref_rep_ok (w : World) (A : Option Addr) (c : Nat) (l0 : List Int) (kind n : Int) (p : List Int) (hpb : B8 p)
    (HO : Calls Try.prog 34 #[.slice A l0.length c, .bool true] (w.alloc z48) fun e_ w' => ∃ A2 c2, e_ = .returned (.tuple #[.slice A2 p.length c2, .int .i64 kind, .int .i64 n, .int .i64 0]) ∧ p.length ≤ c2 ∧ (Kd.int .u8).C (w.alloc z48) A2 p.length p ∧ Below (w.alloc z48).heap.size (w.alloc z48) w') :
    Calls Try.prog 19 #[.slice A l0.length c] w fun e_ w' => refRPost w n p e_ w' := by
  have HO' := Aside0.mk HO
  clear HO
  have HPB := Aside0.mk hpb
  obtain ⟨E, hE⟩ : ∃ x, r8 p false = x := ⟨_, rfl⟩
  obtain ⟨l1, hl1⟩ : ∃ x, (rk p false 8).2.1 = x := ⟨_, rfl⟩
  obtain ⟨b1, hb1⟩ : ∃ x, (rk p false 8).2.2 = x := ⟨_, rfl⟩
  obtain ⟨N2, hN2⟩ : ∃ x, r8 l1 b1 = x := ⟨_, rfl⟩
  obtain ⟨l2, hl2⟩ : ∃ x, (rk l1 b1 8).2.1 = x := ⟨_, rfl⟩
  obtain ⟨b2, hb2⟩ : ∃ x, (rk l1 b1 8).2.2 = x := ⟨_, rfl⟩
  obtain ⟨cnt, hcnt⟩ : ∃ x, r4 l2 b2 = x := ⟨_, rfl⟩
  obtain ⟨l3, hl3⟩ : ∃ x, (rk l2 b2 4).2.1 = x := ⟨_, rfl⟩
  obtain ⟨b3, hb3⟩ : ∃ x, (rk l2 b2 4).2.2 = x := ⟨_, rfl⟩
  have hB1 : B8 l1 := hl1 ▸ rk_B8 hpb false 8
  have hB2 : B8 l2 := hl2 ▸ rk_B8 hB1 b1 8
  have HB3 : Aside0 (B8 l3) := ⟨hl3 ▸ rk_B8 hB2 b2 4⟩
  have H1 : Aside0 (∀ (w0 w1 : World) (g : Nat), RS 78 w0 w1 g p false → Calls Try.prog 36 #[.pointer (some ⟨g, 0, none⟩)] w1 fun e w' => e = .returned (.int .i64 E) ∧ RS 78 w0 w' g l1 b1 ∧ KeepBut w1 w' g none) := ⟨fun w0 w1 g h => by
    have h9 := eight_any w0 w1 g p false h hpb
    rw [hE, hl1, hb1] at h9
    exact h9⟩
  have H2 : Aside0 (∀ (w0 w1 : World) (g : Nat), RS 78 w0 w1 g l1 b1 → Calls Try.prog 36 #[.pointer (some ⟨g, 0, none⟩)] w1 fun e w' => e = .returned (.int .i64 N2) ∧ RS 78 w0 w' g l2 b2 ∧ KeepBut w1 w' g none) := ⟨fun w0 w1 g h => by
    have h9 := eight_any w0 w1 g l1 b1 h hB1
    rw [hN2, hl2, hb2] at h9
    exact h9⟩
  have H3 : Aside0 (∀ (w0 w1 : World) (g : Nat), RS 78 w0 w1 g l2 b2 → Calls Try.prog 35 #[.pointer (some ⟨g, 0, none⟩)] w1 fun e w' => e = .returned (.int .i64 (cnt : Int)) ∧ RS 78 w0 w' g l3 b3 ∧ KeepBut w1 w' g none) := ⟨fun w0 w1 g h => by
    have h9 := four_any w0 w1 g l2 b2 h hB2
    rw [hcnt, hl3, hb3] at h9
    exact h9⟩
  have HB2 := Aside0.mk hB2
  have HR : Aside0 (refRep p = if E < 0 ∨ 100 < E ∨ 1024 < cnt then (true, 0, 0, [], ⟨#[]⟩) else
    let T := etl cnt l3 b3
    let t := rt T.2.1 T.2.2
    (t.2.2 || decide (0 < t.2.1.length), E, N2, T.1, t.1)) := ⟨by
      unfold refRep
      simp only
      rw [hl1, hb1, hN2, hl2, hb2, hcnt, hl3, hb3, hE]⟩
  have hEr : Aside0 (-9223372036854775808 ≤ E ∧ E < 9223372036854775808) := ⟨by
    rw [← hE, r8_eq]; split
    · omega
    · exact ⟨by rw [IntKind.wrap_i64]; omega, by rw [IntKind.wrap_i64]; omega⟩⟩
  clear hE hl1 hb1 hN2 hl2 hb2 hcnt hl3 hb3 hpb hB1 hB2
  go_enter Try.func19, Try.ntmps19
  go_wp2_with fail
  refine HO'.out.mono ?_
  rintro e_ w1 ⟨A2, c2, rfl, hc2, hC2, hBB2⟩
  have HC2 := Aside0.mk hC2
  have HBB := Aside0.mk hBB2
  have HCC := Aside0.mk hc2
  clear hC2 hBB2 hc2 HO'
  go_wp2_with fail
  have HS : Aside0 (RS 78 (w.alloc z48) (w1.alloc (.cells #[.slice A2 p.length c2, .bool false] 78)) w1.heap.size p false) := ⟨rs_new78 rfl HBB.out HC2.out HCC.out⟩
  refine (H1.out _ _ _ HS.out).mono ?_
  rintro e_ w2 ⟨rfl, hS, hK⟩
  have HS2 := Aside0.mk hS
  clear hS hK HS H1 HC2 HBB HCC
  generalize w1.heap.size = g at *
  go_wp2_with fail
  refine (H2.out _ _ _ HS2.out).mono ?_
  rintro e_ w3 ⟨rfl, hS, hK⟩
  have HS3 := Aside0.mk hS
  clear hS hK HS2 H2
  go_wp2_with fail
  have HJ0 : Aside0 (K3 (w.alloc z48) (w3.alloc (.cells #[.int .i64 0, .slice none 0 0, .string ⟨#[]⟩, .int .i64 N2] 48)) g w3.heap.size 0 N2 (.slice none 0 0) [] l2 b2) :=
    ⟨⟨heap_alloc_new w3 _, Kd.R_nil _ _ _ _ _, HS3.out.alloc _, HB2.out, below_alloc (rs_below HS3.out) _, (rs_below HS3.out).size⟩⟩
  refine (H3.out _ _ _ HJ0.out.rd).mono ?_
  rintro e_ w4 ⟨rfl, hS2, hK2⟩
  have HL1 := Aside0.mk (HJ0.out.step hS2 HB3.out hK2)
  clear HJ0 hS2 hK2 H3 HS3 HB2 HB3
  generalize w3.heap.size = gO at *
  generalize hwa : w.alloc z48 = wa at *
  have hwE : wrap64 E = E := w64 (by have := hEr.out; omega) (by have := hEr.out; omega)
  by_cases hbadE : E < 0 ∨ 100 < E ∨ 1024 < cnt
  · have hres := res19 hwa HL1.out.bel
    have HRES := Aside0.mk hres.1
    have HBW := Aside0.mk hres.2
    obtain ⟨⟨z0, z1, z2, z3⟩, zf0, zf1, zf2, zf3⟩ := cells4 hres.1
    have HDB : Aside0 (refRep p = (true, 0, 0, [], ⟨#[]⟩)) := ⟨by rw [HR.out, if_pos hbadE]⟩
    clear hres HR
    have hsplit : (E < 0) ∨ (¬ E < 0 ∧ 100 < E) ∨ (¬ E < 0 ∧ ¬ 100 < E ∧ 1024 < cnt) := by omega
    clear hbadE
    rcases hsplit with hq | ⟨hq, hr⟩ | ⟨hq, hr, hs⟩
    all_goals
      go_wp2_with fail
      have h3 := four HRES.out (.int .i64 0) (.slice none 0 0) (.string ⟨#[]⟩) (.int .i64 0)
      have hb3 : Below w.heap.size w ((((w4.setCell ⟨w.heap.size, 0, none⟩ (.int .i64 0)).setCell ⟨w.heap.size, 1, none⟩ (.slice none 0 0)).setCell ⟨w.heap.size, 2, none⟩ (.string ⟨#[]⟩)).setCell ⟨w.heap.size, 3, none⟩ (.int .i64 0)) := below_set (below_set (below_set (below_set HBW.out (Nat.le_refl _)) (Nat.le_refl _)) (Nat.le_refl _)) (Nat.le_refl _)
      generalize ((((w4.setCell ⟨w.heap.size, 0, none⟩ (.int .i64 0)).setCell ⟨w.heap.size, 1, none⟩ (.slice none 0 0)).setCell ⟨w.heap.size, 2, none⟩ (.string ⟨#[]⟩)).setCell ⟨w.heap.size, 3, none⟩ (.int .i64 0)) = wz at *
      obtain ⟨⟨g0, g1, g2, g3⟩, _, _, _, _⟩ := cells4 h3
      exact bodyPost_ret (v := .tuple #[.agg #[.int .i64 0, .slice none 0 0, .string ⟨#[]⟩, .int .i64 0], .int .i64 0, .int .i64 3]) (by simp [results, Try.results19, go_sem, g0, g1, g2, g3]) rfl (by unfold refRPost; rw [HDB.out]; exact ⟨rfl, hb3⟩)
  · have HR2 : Aside0 (refRep p = (let T := etl cnt l3 b3
      let t := rt T.2.1 T.2.2
      (t.2.2 || decide (0 < t.2.1.length), E, N2, T.1, t.1))) := ⟨by rw [HR.out, if_neg hbadE]⟩
    clear HR
    have hq : ¬ E < 0 := by omega
    have hr : ¬ 100 < E := by omega
    have hs : ¬ 1024 < cnt := by omega
    clear hbadE
    obtain ⟨⟨x0, x1, x2, x3⟩, y0, y1, y2, y3⟩ := cells4 HL1.out.obj
    have HL2 := Aside0.mk (HL1.out.err E)
    go_upto_region 13 with fail
    generalize (w4.setCell ⟨gO, 0, none⟩ (.int .i64 E)) = w5 at *
    clear HL1 x0 x1 x2 x3 y0 y1 y2 y3
    go_loopw [13] (fun v wr => ∃ (k : Nat) (vT : Value) (ts : List ByteArray) (l' : List Int) (b' : Bool), v = .int .i64 (k : Int) ∧ k ≤ cnt ∧ Aside0 (ts.length = k) ∧ Aside0 (K3 wa wr g gO E N2 vT ts l' b') ∧ Aside0 (ts ++ (etl (cnt - k) l' b').1 = (etl cnt l3 b3).1 ∧ (etl (cnt - k) l' b').2 = (etl cnt l3 b3).2)) (fun v _ => cnt - (intOf v).toNat)
    case atStart => exact ⟨0, .slice none 0 0, [], l3, b3, rfl, Nat.zero_le _, ⟨rfl⟩, HL2, ⟨by simp⟩⟩
    case round =>
      obtain ⟨k2, vT, ts, l', b', rfl, hk2, HNK2, HJ2, HE4⟩ := hrel
      by_cases hlt2 : k2 < cnt
      · have hHE := HE4.out
        rw [show cnt - k2 = (cnt - (k2 + 1)) + 1 from by omega, etl] at hHE
        obtain ⟨n4, hn4⟩ : ∃ x, r4 l' b' = x := ⟨_, rfl⟩
        obtain ⟨l5, hl5⟩ : ∃ x, (rk l' b' 4).2.1 = x := ⟨_, rfl⟩
        obtain ⟨b5, hb5⟩ : ∃ x, (rk l' b' 4).2.2 = x := ⟨_, rfl⟩
        unfold rt at hHE
        rw [hn4, hl5, hb5] at hHE
        have HN : Aside0 (∀ (w1 : World), RS 78 wa w1 g l' b' → Calls Try.prog 35 #[.pointer (some ⟨g, 0, none⟩)] w1 fun e w' => e = .returned (.int .i64 (n4 : Int)) ∧ RS 78 wa w' g l5 b5 ∧ KeepBut w1 w' g none) := ⟨fun w1 h => by
          have h9 := four_any wa w1 g l' b' h HJ2.out.b8
          rw [hn4, hl5, hb5] at h9
          exact h9⟩
        have HB3 : Aside0 (B8 l5) := ⟨hl5 ▸ rk_B8 HJ2.out.b8 b' 4⟩
        have HB4 : Aside0 (B8 (rk l5 b5 n4).2.1) := ⟨rk_B8 HB3.out b5 n4⟩
        have HNR := Aside0.mk (fun (w1 : World) (h : RS 78 wa w1 g l5 b5) => raw_any wa w1 g n4 l5 b5 h)
        clear hn4 hl5 hb5 HE4
        simp only at hHE HNR
        obtain ⟨o4, ho4⟩ : ∃ x, (rk l5 b5 n4).1 = x := ⟨_, rfl⟩
        obtain ⟨l4, hl4⟩ : ∃ x, (rk l5 b5 n4).2.1 = x := ⟨_, rfl⟩
        obtain ⟨b4, hb4⟩ : ∃ x, (rk l5 b5 n4).2.2 = x := ⟨_, rfl⟩
        rw [ho4, hl4, hb4] at HNR
        rw [show (rk l5 b5 n4).2 = (l4, b4) from Prod.ext hl4 hb4] at hHE
        rw [ho4] at hHE
        rw [hl4] at HB4
        simp only at hHE
        have HE5 := Aside0.mk hHE
        clear hHE ho4 hl4 hb4
        obtain ⟨AT, cT, rfl⟩ := Kd.R_slice HJ2.out.row
        obtain ⟨⟨x0, x1, x2, x3⟩, y0, y1, y2, y3⟩ := cells4 HJ2.out.obj
        go_wp2
        go_region_law (first | (go_simp; go_at_call 35; (with_reducible refine (HN.out _ ?hS).mono ?_); (case hS => exact HJ2.out.drew.rd); rintro e w3 ⟨rfl, hS3, hK3⟩; have HJ3 := Aside0.mk (HJ2.out.drew.step hS3 HB3.out hK3); obtain ⟨⟨p0, p1, p2, p3⟩, q0, q1, q2, q3⟩ := cells4 HJ3.out.obj; clear hS3 hK3 HN) | (go_simp; go_at_call 37; (with_reducible refine (HNR.out _ ?hS2).mono ?_); (case hS2 => exact HJ3.out.rd); rintro e w5 ⟨A5, c5, rfl, hc5, hC5, hS5, hK5⟩; have HJ5 := Aside0.mk (HJ3.out.step hS5 HB4.out hK5); have hcv := Kd.C_string (P := Try.prog) (src := 27) (dst := 55) (e := 5) (c := c5) Try.underlying27 Try.underlying5 Try.underlying55 hC5; obtain ⟨⟨p0b, p1b, p2b, p3b⟩, q0b, q1b, q2b, q3b⟩ := cells4 HJ5.out.obj; have p1a : ∀ o : Obj, (w5.alloc o).cell? ⟨gO, 1, none⟩ = some (.slice AT ts.length cT) := (fun o => (cells4 (blk_alloc HJ5.out.obj o)).1.2.1); clear hS5 hK5 hC5 hc5 HNR) | (refine Kd.R_append_step Kd.string (w0 := wa) wa.heap.size (by rfl) (.tmp 54) (.tmp 60) 46 55 (.string ⟨#[]⟩) 16 (by rfl) Try.underlying46 info55 rfl (by decide) (by omega) (.slice AT ts.length cT) ts (strOfNums o4) [.string (strOfNums o4)] (fun _ => True) (fun _ => False) (by rfl) (by rfl) rfl (fun _ hk => hk.elim) (fun _ _ => trivial) HJ5.out.row HJ5.out.bel HJ5.out.bel.size (by have := HNK2.out; omega) ?_; intro v1 w4 hr4 hb4 hg4 hat4; obtain ⟨ts2, hns2⟩ : ∃ q, ts ++ [strOfNums o4] = q := ⟨_, rfl⟩; rw [hns2] at hr4; have HNS := Aside0.mk hns2; clear hns2; obtain ⟨A4, c4, rfl⟩ := Kd.R_slice hr4; have HJ4 := Aside0.mk (HJ5.out.put hr4 hg4 hb4); obtain ⟨⟨r0, r1, r2, r3⟩, s0, s1, s2, s3⟩ := cells4 (blk_grown HJ5.out.obj hg4 (Kd.R_ne HJ5.out.row HJ5.out.obj (by decide))); clear hat4 hr4 hb4 hg4))
        all_goals
          go_wp2
          refine ⟨⟨k2 + 1, _, ts2, l4, b4, by go_num, by omega, ⟨by rw [← HNS.out, List.length_append, HNK2.out]; rfl⟩, HJ4, ⟨by rw [← HNS.out, List.append_assoc]; exact HE5.out⟩⟩, by simp [intOf]; omega⟩
      · have hkk : k2 = cnt := by omega
        subst hkk
        have hEE := HE4.out
        rw [Nat.sub_self, etl] at hEE
        simp only [List.append_nil] at hEE
        have htl : etl k2 l3 b3 = (ts, l', b') := Prod.ext hEE.1.symm hEE.2.symm
        obtain ⟨n4, hn4⟩ : ∃ x, r4 l' b' = x := ⟨_, rfl⟩
        obtain ⟨l5, hl5⟩ : ∃ x, (rk l' b' 4).2.1 = x := ⟨_, rfl⟩
        obtain ⟨b5, hb5⟩ : ∃ x, (rk l' b' 4).2.2 = x := ⟨_, rfl⟩
        have HN : Aside0 (∀ (w1 : World), RS 78 wa w1 g l' b' → Calls Try.prog 35 #[.pointer (some ⟨g, 0, none⟩)] w1 fun e w' => e = .returned (.int .i64 (n4 : Int)) ∧ RS 78 wa w' g l5 b5 ∧ KeepBut w1 w' g none) := ⟨fun w1 h => by
          have h9 := four_any wa w1 g l' b' h HJ2.out.b8
          rw [hn4, hl5, hb5] at h9
          exact h9⟩
        have HB3 : Aside0 (B8 l5) := ⟨hl5 ▸ rk_B8 HJ2.out.b8 b' 4⟩
        have HB4 : Aside0 (B8 (rk l5 b5 n4).2.1) := ⟨rk_B8 HB3.out b5 n4⟩
        have HNR := Aside0.mk (fun (w1 : World) (h : RS 78 wa w1 g l5 b5) => raw_any wa w1 g n4 l5 b5 h)
        obtain ⟨o9, ho4⟩ : ∃ x, (rk l5 b5 n4).1 = x := ⟨_, rfl⟩
        obtain ⟨l9, hl4⟩ : ∃ x, (rk l5 b5 n4).2.1 = x := ⟨_, rfl⟩
        obtain ⟨b9, hb4⟩ : ∃ x, (rk l5 b5 n4).2.2 = x := ⟨_, rfl⟩
        have hrt : rt l' b' = (strOfNums o9, l9, b9) := by
          unfold rt
          rw [hn4, hl5, hb5, ho4]
          exact Prod.ext rfl (Prod.ext hl4 hb4)
        have HDB : Aside0 (refRep p = (b9 || decide (0 < l9.length), E, N2, ts, strOfNums o9)) := ⟨by rw [HR2.out, htl]; simp only; rw [hrt]⟩
        rw [ho4, hl4, hb4] at HNR
        rw [hl4] at HB4
        clear hn4 hl5 hb5 HE4 ho4 hl4 hb4 hEE htl hrt HR2
        generalize hS9 : strOfNums o9 = t9 at *
        have HS9 := Aside0.mk hS9
        clear hS9
        go_wp2_with fail
        refine (HN.out _ HJ2.out.rd).mono ?_
        rintro e_ w6 ⟨rfl, hS6, hK6⟩
        have HJ6 := Aside0.mk (HJ2.out.step hS6 HB3.out hK6)
        clear hS6 hK6 HN HJ2
        go_wp2_with fail
        refine (HNR.out _ HJ6.out.rd).mono ?_
        rintro e_ w7 ⟨A5, c5, rfl, hc5, hC5, hS7, hK7⟩
        have HJ5 := Aside0.mk (HJ6.out.step hS7 HB4.out hK7)
        have hcv := Kd.C_string (P := Try.prog) (src := 27) (dst := 9) (e := 5) (c := c5) Try.underlying27 Try.underlying5 Try.underlying9 hC5
        rw [HS9.out] at hcv
        clear hS7 hK7 HNR HJ6 hC5 hc5
        obtain ⟨⟨x0, x1, x2, x3⟩, y0, y1, y2, y3⟩ := cells4 HJ5.out.obj
        have hobj : (w7.setCell ⟨gO, 2, none⟩ (.string t9)).heap[gO]? = some (.cells #[.int .i64 E, vT, .string t9, .int .i64 N2] 48 (0, 0)) := by simpa using blk_set HJ5.out.obj 2 (.string t9)
        have hrow : Kd.string.R 55 (w7.setCell ⟨gO, 2, none⟩ (.string t9)) wa.heap.size (fun _ => True) vT ts := Kd.R_set HJ5.out.row HJ5.out.obj (by decide) 2 _
        have hrd : RS 78 wa (w7.setCell ⟨gO, 2, none⟩ (.string t9)) g l9 b9 := HJ5.out.rd.far HJ5.out.hO (fun e => HJ5.out.ne e.symm) _
        have hbel : Below wa.heap.size wa (w7.setCell ⟨gO, 2, none⟩ (.string t9)) := below_set HJ5.out.bel HJ5.out.hO
        go_upto_region 16 with fail
        generalize (w7.setCell ⟨gO, 2, none⟩ (.string t9)) = wq at *
        have hres := res19 hwa hbel
        have HRES := Aside0.mk hres.1
        have HBW := Aside0.mk hres.2
        obtain ⟨⟨z0, z1, z2, z3⟩, zf0, zf1, zf2, zf3⟩ := cells4 hres.1
        obtain ⟨⟨v0, v1, v2, v3⟩, vf0, vf1, vf2, vf3⟩ := cells4 hobj
        obtain ⟨AR, cR, hI, hcR, hCR, hgR, hBR⟩ := hrd
        have hr0 := hI.c0
        have hr1 := hI.c1
        have hwl : w.heap.size ≤ wa.heap.size := by rw [← hwa]; simp
        have HRT := Aside0.mk (Kd.R_lower hrow hwl)
        clear hI hcR hCR hgR hBR hres hrow hobj hbel x0 x1 x2 x3 y0 y1 y2 y3 hcv
        cases b9 with
        | true =>
          simp only [Bool.true_or] at HDB
          go_wp2_with fail
          have h3 := four HRES.out (.int .i64 0) (.slice none 0 0) (.string ⟨#[]⟩) (.int .i64 0)
          have hb3 : Below w.heap.size w ((((wq.setCell ⟨w.heap.size, 0, none⟩ (.int .i64 0)).setCell ⟨w.heap.size, 1, none⟩ (.slice none 0 0)).setCell ⟨w.heap.size, 2, none⟩ (.string ⟨#[]⟩)).setCell ⟨w.heap.size, 3, none⟩ (.int .i64 0)) := below_set (below_set (below_set (below_set HBW.out (Nat.le_refl _)) (Nat.le_refl _)) (Nat.le_refl _)) (Nat.le_refl _)
          generalize ((((wq.setCell ⟨w.heap.size, 0, none⟩ (.int .i64 0)).setCell ⟨w.heap.size, 1, none⟩ (.slice none 0 0)).setCell ⟨w.heap.size, 2, none⟩ (.string ⟨#[]⟩)).setCell ⟨w.heap.size, 3, none⟩ (.int .i64 0)) = wz at *
          obtain ⟨⟨g0, g1, g2, g3⟩, _, _, _, _⟩ := cells4 h3
          exact bodyPost_ret (v := .tuple #[.agg #[.int .i64 0, .slice none 0 0, .string ⟨#[]⟩, .int .i64 0], .int .i64 0, .int .i64 3]) (by simp [results, Try.results19, go_sem, g0, g1, g2, g3]) rfl (by unfold refRPost; rw [HDB.out]; exact ⟨rfl, hb3⟩)
        | false =>
          simp only [Bool.false_or] at HDB
          by_cases hl9 : 0 < l9.length
          · rw [decide_eq_true hl9] at HDB
            go_wp2_with fail
            have h3 := four HRES.out (.int .i64 0) (.slice none 0 0) (.string ⟨#[]⟩) (.int .i64 0)
            have hb3 : Below w.heap.size w ((((wq.setCell ⟨w.heap.size, 0, none⟩ (.int .i64 0)).setCell ⟨w.heap.size, 1, none⟩ (.slice none 0 0)).setCell ⟨w.heap.size, 2, none⟩ (.string ⟨#[]⟩)).setCell ⟨w.heap.size, 3, none⟩ (.int .i64 0)) := below_set (below_set (below_set (below_set HBW.out (Nat.le_refl _)) (Nat.le_refl _)) (Nat.le_refl _)) (Nat.le_refl _)
            generalize ((((wq.setCell ⟨w.heap.size, 0, none⟩ (.int .i64 0)).setCell ⟨w.heap.size, 1, none⟩ (.slice none 0 0)).setCell ⟨w.heap.size, 2, none⟩ (.string ⟨#[]⟩)).setCell ⟨w.heap.size, 3, none⟩ (.int .i64 0)) = wz at *
            obtain ⟨⟨g0, g1, g2, g3⟩, _, _, _, _⟩ := cells4 h3
            exact bodyPost_ret (v := .tuple #[.agg #[.int .i64 0, .slice none 0 0, .string ⟨#[]⟩, .int .i64 0], .int .i64 0, .int .i64 3]) (by simp [results, Try.results19, go_sem, g0, g1, g2, g3]) rfl (by unfold refRPost; rw [HDB.out]; exact ⟨rfl, hb3⟩)
          · rw [decide_eq_false hl9] at HDB
            obtain ⟨AT, cT, rfl⟩ := Kd.R_slice HRT.out
            go_wp2_with fail
            have h3 := four HRES.out (.int .i64 E) (.slice AT ts.length cT) (.string t9) (.int .i64 N2)
            have hb3 : Below w.heap.size w ((((wq.setCell ⟨w.heap.size, 0, none⟩ (.int .i64 E)).setCell ⟨w.heap.size, 1, none⟩ (.slice AT ts.length cT)).setCell ⟨w.heap.size, 2, none⟩ (.string t9)).setCell ⟨w.heap.size, 3, none⟩ (.int .i64 N2)) := below_set (below_set (below_set (below_set HBW.out (Nat.le_refl _)) (Nat.le_refl _)) (Nat.le_refl _)) (Nat.le_refl _)
            have ht3 : Kd.string.R 55 ((((wq.setCell ⟨w.heap.size, 0, none⟩ (.int .i64 E)).setCell ⟨w.heap.size, 1, none⟩ (.slice AT ts.length cT)).setCell ⟨w.heap.size, 2, none⟩ (.string t9)).setCell ⟨w.heap.size, 3, none⟩ (.int .i64 N2)) w.heap.size (fun _ => True) (.slice AT ts.length cT) ts := Kd.R_set (Kd.R_set (Kd.R_set (Kd.R_set HRT.out HRES.out (by decide) 0 _) (blk_set HRES.out 0 _) (by decide) 1 _) (blk_set (blk_set HRES.out 0 _) 1 _) (by decide) 2 _) (blk_set (blk_set (blk_set HRES.out 0 _) 1 _) 2 _) (by decide) 3 _
            generalize ((((wq.setCell ⟨w.heap.size, 0, none⟩ (.int .i64 E)).setCell ⟨w.heap.size, 1, none⟩ (.slice AT ts.length cT)).setCell ⟨w.heap.size, 2, none⟩ (.string t9)).setCell ⟨w.heap.size, 3, none⟩ (.int .i64 N2)) = wz at *
            obtain ⟨⟨g0, g1, g2, g3⟩, _, _, _, _⟩ := cells4 h3
            exact bodyPost_ret (v := .tuple #[.agg #[.int .i64 E, .slice AT ts.length cT, .string t9, .int .i64 N2], .int .i64 n, .int .i64 0]) (by simp [results, Try.results19, go_sem, g0, g1, g2, g3]) rfl (by unfold refRPost; rw [HDB.out]; exact ⟨_, rfl, ht3, hb3⟩)
end Go.Proofs.Ytoblfdloakkmmaa.Rf
