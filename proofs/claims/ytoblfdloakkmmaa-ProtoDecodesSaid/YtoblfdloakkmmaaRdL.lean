/- proto: DecodeReply. Own work. -/
import Derived.Test.YtoblfdloakkmmaaRdJ
import Derived.Lib.Hide
namespace Go.Proofs.Ytoblfdloakkmmaa.Rd
set_option linter.unusedVariables false
set_option linter.unusedSimpArgs false
open Go.RowKit Go.Proofs.Ytoblfdloakkmmaa.Mp Go.Proofs.Ytoblfdloakkmmaa.PL Go.Proofs.YtoblfdloakkmmaaW.PrintWords Go.Proofs.YtoblfdloakkmmaaW.PrintLast Go.Proofs.YtoblfdloakkmmaaW.PrintMore

theorem four {w : World} {g t : Nat} {a b c d : Value} (h : w.heap[g]? = some (.cells #[a, b, c, d] t (0, 0))) (x y z u : Value) :
    ((((w.setCell ⟨g, 0, none⟩ x).setCell ⟨g, 1, none⟩ y).setCell ⟨g, 2, none⟩ z).setCell ⟨g, 3, none⟩ u).heap[g]? = some (.cells #[x, y, z, u] t (0, 0)) := by
  have h1 := blk_set (blk_set (blk_set (blk_set h 0 x) 1 y) 2 z) 3 u
  simpa using h1
theorem cells4 {w : World} {g t : Nat} {a b c d : Value} (h : w.heap[g]? = some (.cells #[a, b, c, d] t (0, 0))) : (w.cell? ⟨g, 0, none⟩ = some a ∧ w.cell? ⟨g, 1, none⟩ = some b ∧ w.cell? ⟨g, 2, none⟩ = some c ∧ w.cell? ⟨g, 3, none⟩ = some d) ∧
    w.frozen? ⟨g, 0, none⟩ = false ∧ w.frozen? ⟨g, 1, none⟩ = false ∧ w.frozen? ⟨g, 2, none⟩ = false ∧ w.frozen? ⟨g, 3, none⟩ = false :=
  ⟨⟨(blk_cell h 0).trans rfl, (blk_cell h 1).trans rfl, (blk_cell h 2).trans rfl, (blk_cell h 3).trans rfl⟩, blk_frozen h 0, blk_frozen h 1, blk_frozen h 2, blk_frozen h 3⟩
/-- what holds while a Reply's paths are read -/
structure J3 (w wr : World) (g gO : Nat) (n : Int) (vP : Value) (ts : List ByteArray) (l : List Int) (b : Bool) : Prop where
  obj : wr.heap[gO]? = some (.cells #[.int .i64 0, vP, .string ⟨#[]⟩, .int .i64 n] 48 (0, 0))
  row : Kd.string.R 55 wr w.heap.size (fun _ => True) vP ts
  rd : RS 73 w wr g l b
  b8 : B8 l
  bel : Below w.heap.size w wr
  hO : w.heap.size ≤ gO
theorem J3.ne {w wr : World} {g gO : Nat} {n : Int} {vP : Value} {l : List Int} {ts : List ByteArray} {b : Bool} (h : J3 w wr g gO n vP ts l b) : gO ≠ g := by
  obtain ⟨cs, hg⟩ := h.rd.blk
  exact blk_ne h.obj hg (by decide)
theorem J3.drew {w wr : World} {g gO : Nat} {n : Int} {vP : Value} {l : List Int} {ts : List ByteArray} {b : Bool} (h : J3 w wr g gO n vP ts l b) : J3 w wr.drew g gO n vP ts l b :=
  ⟨h.obj, Kd.R_drew h.row, rs_drew h.rd, h.b8, below_drew h.bel, h.hO⟩
theorem J3.step {w wr w2 : World} {g gO : Nat} {n : Int} {vP : Value} {l l2 : List Int} {ts : List ByteArray} {b b2 : Bool} (h : J3 w wr g gO n vP ts l b) (hS : RS 73 w w2 g l2 b2) (hb : B8 l2) (hK : KeepBut wr w2 g none) : J3 w w2 g gO n vP ts l2 b2 := by
  obtain ⟨cs, hg⟩ := h.rd.blk
  exact ⟨hK.blk h.obj h.ne (by simp), Kd.R_drop (Kd.R_keep (Kd.R_types h.row hg (by decide)) hK (fun _ hk => hk.2)), hS, hb, rs_below hS, h.hO⟩
theorem J3.put {w wr w2 : World} {g gO : Nat} {n : Int} {vP vP2 : Value} {l : List Int} {ts ts2 : List ByteArray} {b : Bool} (h : J3 w wr g gO n vP ts l b) (hr : Kd.string.R 55 w2 w.heap.size (fun _ => True) vP2 ts2) (hg : wr.grownBy w2 vP.ownBlock) (hB : Below w.heap.size w w2) :
    J3 w (w2.setCell ⟨gO, 1, none⟩ vP2) g gO n vP2 ts2 l b := by
  obtain ⟨cs, hgb⟩ := h.rd.blk
  have hne1 : some gO ≠ vP.ownBlock := Kd.R_ne h.row h.obj (by decide)
  have hne2 : some g ≠ vP.ownBlock := Kd.R_ne h.row hgb (by decide)
  have ho := blk_grown h.obj hg hne1
  refine ⟨by simpa using blk_set ho 1 vP2, Kd.R_set hr ho (by decide) 1 vP2, (h.rd.grown hg hne2 hB).far h.hO (fun e => h.ne e.symm) vP2, h.b8, below_set hB h.hO, h.hO⟩
theorem info55 : (Try.prog.info? 55).map (fun i => (i.zero, i.size, i.bytes)) = some (some (.string ⟨#[]⟩), 1, 16) := by kernel_rfl
abbrev z48 : Obj := .cells #[.int .i64 0, .slice none 0 0, .string ⟨#[]⟩, .int .i64 0] 48
set_option maxHeartbeats 400000 in
theorem rep_err (w : World) (A : Option Addr) (c : Nat) (l : List Int) (e : Int) (he : e ≠ 0)
    (HO : Calls Try.prog 29 #[.slice A l.length c, .func (.func 38) #[] #[]] (w.alloc z48) fun e_ w' => e_ = .returned (.tuple #[.int .i64 0, .pointer none, .int .i64 0, .int .i64 e]) ∧ Below (w.alloc z48).heap.size (w.alloc z48) w') :
    Calls Try.prog 18 #[.slice A l.length c] w fun e_ w' => e_ = .returned (.tuple #[.agg #[.int .i64 0, .slice none 0 0, .string ⟨#[]⟩, .int .i64 0], .int .i64 0, .int .i64 e]) ∧ Below w.heap.size w w' := by
  have HO' := Aside0.mk HO
  clear HO
  have hne : (e != 0) = true := by simpa using he
  go_enter Try.func18, Try.ntmps18
  go_wp2_with (go_at_call 29; refine HO'.out.mono ?_; rintro e_ w1 ⟨rfl, hb⟩; have hblk : w1.heap[w.heap.size]? = some z48 := (hb.block w.heap.size (by simp)).trans (heap_alloc_new w _); have HBLK := Aside0.mk hblk; obtain ⟨⟨hc0, hc1, hc2, hc3⟩, hf0, hf1, hf2, hf3⟩ := cells4 hblk; have HB := Aside0.mk (below_then (below_alloc (Below.refl _ w) _) (by simp) hb : Below w.heap.size w w1); clear hb HO' hblk)
  have h3 := four HBLK.out (.int .i64 0) (.slice none 0 0) (.string ⟨#[]⟩) (.int .i64 0)
  have hb3 : Below w.heap.size w ((((w1.setCell ⟨w.heap.size, 0, none⟩ (.int .i64 0)).setCell ⟨w.heap.size, 1, none⟩ (.slice none 0 0)).setCell ⟨w.heap.size, 2, none⟩ (.string ⟨#[]⟩)).setCell ⟨w.heap.size, 3, none⟩ (.int .i64 0)) := below_set (below_set (below_set (below_set HB.out (Nat.le_refl _)) (Nat.le_refl _)) (Nat.le_refl _)) (Nat.le_refl _)
  generalize ((((w1.setCell ⟨w.heap.size, 0, none⟩ (.int .i64 0)).setCell ⟨w.heap.size, 1, none⟩ (.slice none 0 0)).setCell ⟨w.heap.size, 2, none⟩ (.string ⟨#[]⟩)).setCell ⟨w.heap.size, 3, none⟩ (.int .i64 0)) = w3 at *
  obtain ⟨⟨g0, g1, g2, g3⟩, _, _, _, _⟩ := cells4 h3
  exact bodyPost_ret (v := .tuple #[.agg #[.int .i64 0, .slice none 0 0, .string ⟨#[]⟩, .int .i64 0], .int .i64 0, .int .i64 e]) (by simp [results, Try.results18, go_sem, g0, g1, g2, g3]) rfl ⟨rfl, hb3⟩
/-- what a Reply's body says: whether it is refused, its error, its number, its paths, its text -/
def repBody (p : List Int) : Bool × Nat × Int × List ByteArray × ByteArray :=
  let e8 := tk p false 8
  let n8 := tk e8.2.1 e8.2.2 8
  let u := up n8.2.1 n8.2.2 1024
  let T := tl u.1 u.2.1 u.2.2
  let t := tx T.2.1 T.2.2
  (t.2.2 || decide (0 < t.2.1.length) || decide (100 < V e8.1), V e8.1, wrap64 ((V n8.1 : Nat) : Int), T.1, t.1)
def repPost (w : World) (n : Int) (p : List Int) (e_ : Ending) (w' : World) : Prop :=
  if (repBody p).1 = true then e_ = .returned (.tuple #[.agg #[.int .i64 0, .slice none 0 0, .string ⟨#[]⟩, .int .i64 0], .int .i64 0, .int .i64 3]) ∧ Below w.heap.size w w'
  else ∃ vP, e_ = .returned (.tuple #[.agg #[.int .i64 (((repBody p).2.1 : Nat) : Int), vP, .string (repBody p).2.2.2.2, .int .i64 (repBody p).2.2.1], .int .i64 n, .int .i64 0]) ∧ Kd.string.R 55 w' w.heap.size (fun _ => True) vP (repBody p).2.2.2.1 ∧ Below w.heap.size w w'
set_option maxHeartbeats 1000000 in
theorem rep_ok (w : World) (A : Option Addr) (c : Nat) (l0 : List Int) (kind n : Int) (p : List Int) (hpb : B8 p)
    (HO : Calls Try.prog 29 #[.slice A l0.length c, .func (.func 38) #[] #[]] (w.alloc z48) fun e_ w' => ∃ g, e_ = .returned (.tuple #[.int .i64 kind, .pointer (some ⟨g, 0, none⟩), .int .i64 n, .int .i64 0]) ∧ RS 73 (w.alloc z48) w' g p false ∧ (w.alloc z48).heap.size ≤ g ∧ g < w'.heap.size) :
    Calls Try.prog 18 #[.slice A l0.length c] w fun e_ w' => repPost w n p e_ w' := by
  have HO' := Aside0.mk HO
  obtain ⟨x1, l1, b1, ht1⟩ : ∃ x y z, tk p false 8 = (x, y, z) := ⟨_, _, _, rfl⟩
  have hB1 := (tk_B8 hpb false 8).2
  have HN1 := Aside0.mk (fun (w1 : World) (g : Nat) (h : RS 73 (w.alloc z48) w1 g p false) => number_any _ w1 g 8 p false h (by omega) hpb)
  rw [ht1] at hB1 HN1
  obtain ⟨x2, l2, b2, ht2⟩ : ∃ x y z, tk l1 b1 8 = (x, y, z) := ⟨_, _, _, rfl⟩
  have hB2 := (tk_B8 hB1 b1 8).2
  have HN2 := Aside0.mk (fun (w1 : World) (g : Nat) (h : RS 73 (w.alloc z48) w1 g l1 b1) => number_any _ w1 g 8 l1 b1 h (by omega) hB1)
  rw [ht2] at hB2 HN2
  simp only at hB1 HN1 hB2 HN2
  obtain ⟨cnt, l3, b3, hu⟩ : ∃ x y z, up l2 b2 1024 = (x, y, z) := ⟨_, _, _, rfl⟩
  have hc := up_le l2 b2 1024
  have hB3 : B8 (up l2 b2 1024).2.1 := (tk_B8 hB2 b2 4).2
  have HU := Aside0.mk (fun (w1 : World) (g : Nat) (h : RS 73 (w.alloc z48) w1 g l2 b2) => upTo_any _ w1 g 1024 l2 b2 h hB2 (by omega))
  rw [hu] at HU hc hB3
  simp only at HU hc hB3
  have HU' : Aside0 (∀ (w1 : World) (g : Nat), RS 73 (w.alloc z48) w1 g l2 b2 → Calls Try.prog 31 #[.pointer (some ⟨g, 0, none⟩), .int .i64 1024] w1 fun e w' => e = .returned (.int .i64 (cnt : Int)) ∧ RS 73 (w.alloc z48) w' g l3 b3 ∧ KeepBut w1 w' g none) := HU
  have HN1' : Aside0 (∀ (w1 : World) (g : Nat), RS 73 (w.alloc z48) w1 g p false → Calls Try.prog 32 #[.pointer (some ⟨g, 0, none⟩), .int .i64 8] w1 fun e w' => e = .returned (.int .u64 ((V x1 : Nat) : Int)) ∧ RS 73 (w.alloc z48) w' g l1 b1 ∧ KeepBut w1 w' g none) := HN1
  have HN2' : Aside0 (∀ (w1 : World) (g : Nat), RS 73 (w.alloc z48) w1 g l1 b1 → Calls Try.prog 32 #[.pointer (some ⟨g, 0, none⟩), .int .i64 8] w1 fun e w' => e = .returned (.int .u64 ((V x2 : Nat) : Int)) ∧ RS 73 (w.alloc z48) w' g l2 b2 ∧ KeepBut w1 w' g none) := HN2
  clear HO HU HN1 HN2
  have HT1 := Aside0.mk ht1
  have HT2 := Aside0.mk ht2
  have HUE := Aside0.mk hu
  clear ht1 ht2 hu
  generalize hE1 : V x1 = E1 at *
  generalize hE2 : V x2 = E2 at *
  have HE1 := Aside0.mk hE1
  have HE2 := Aside0.mk hE2
  clear hE1 hE2
  go_enter Try.func18, Try.ntmps18
  go_wp2_with fail
  refine HO'.out.mono ?_
  rintro e_ w1 ⟨g, rfl, hS, hg1, hg2⟩
  have HS := Aside0.mk hS
  clear hS hg1 hg2 HO'
  go_wp2_with fail
  refine (HN1'.out _ _ HS.out).mono ?_
  rintro e_ w2 ⟨rfl, hS, hK⟩
  have HS2 := Aside0.mk hS
  clear hS hK HS HN1'
  go_wp2_with fail
  refine (HN2'.out _ _ HS2.out).mono ?_
  rintro e_ w3 ⟨rfl, hS, hK⟩
  have HS3 := Aside0.mk hS
  clear hS hK HS2 HN2'
  go_wp2_with fail
  have HJ0 : Aside0 (J3 (w.alloc z48) (w3.alloc (.cells #[.int .i64 0, .slice none 0 0, .string ⟨#[]⟩, .int .i64 (wrap64 (E2 : Int))] 48)) g w3.heap.size (wrap64 (E2 : Int)) (.slice none 0 0) [] l2 b2) :=
    ⟨⟨heap_alloc_new w3 _, Kd.R_nil _ _ _ _ _, HS3.out.alloc _, hB2, below_alloc (rs_below HS3.out) _, (rs_below HS3.out).size⟩⟩
  refine (HU'.out _ _ HJ0.out.rd).mono ?_
  rintro e_ w4 ⟨rfl, hS2, hK2⟩
  have HL1 := Aside0.mk (HJ0.out.step hS2 hB3 hK2)
  clear HJ0 hS2 hK2 HU' HS3
  generalize w3.heap.size = gO at *
  generalize hwa : w.alloc z48 = wa at *
  generalize hN2 : wrap64 (E2 : Int) = N2 at *
  have HWN := Aside0.mk hN2
  clear hN2
  go_wp2_with fail
  go_loopw [30] (fun v wr => ∃ (k : Nat) (vT : Value) (ts : List ByteArray) (l' : List Int) (b' : Bool), v = .int .i64 (k : Int) ∧ k ≤ cnt ∧ Aside0 (ts.length = k) ∧ Aside0 (J3 wa wr g gO N2 vT ts l' b') ∧ Aside0 (ts ++ (tl (cnt - k) l' b').1 = (tl cnt l3 b3).1 ∧ (tl (cnt - k) l' b').2 = (tl cnt l3 b3).2)) (fun v _ => cnt - (intOf v).toNat)
  case atStart => exact ⟨0, .slice none 0 0, [], l3, b3, rfl, Nat.zero_le _, ⟨rfl⟩, HL1, ⟨by simp⟩⟩
  case round =>
    obtain ⟨k2, vT, ts, l', b', rfl, hk2, HNK2, HJ2, HE4⟩ := hrel
    by_cases hlt2 : k2 < cnt
    · have HN := Aside0.mk (show ∀ (w1 : World), RS 73 wa w1 g l' b' → Calls Try.prog 33 #[.pointer (some ⟨g, 0, none⟩)] w1 fun e w' => e = .returned (.string (tx l' b').1) ∧ RS 73 wa w' g (tx l' b').2.1 (tx l' b').2.2 ∧ KeepBut w1 w' g none from fun w1 h => text_any wa w1 g l' b' h HJ2.out.b8)
      have HB2 := Aside0.mk (tx_B8 HJ2.out.b8 b')
      have hHE := HE4.out
      rw [show cnt - k2 = (cnt - (k2 + 1)) + 1 from by omega, tl] at hHE
      have HE5 := Aside0.mk hHE
      clear hHE HE4
      obtain ⟨t8, ht8⟩ : ∃ x, (tx l' b').1 = x := ⟨_, rfl⟩
      obtain ⟨l4, hl4⟩ : ∃ x, (tx l' b').2.1 = x := ⟨_, rfl⟩
      obtain ⟨b4, hb4⟩ : ∃ x, (tx l' b').2.2 = x := ⟨_, rfl⟩
      rw [ht8, hl4, hb4] at HN
      rw [ht8, hl4, hb4] at HE5
      rw [hl4] at HB2
      clear ht8 hl4 hb4
      obtain ⟨AT, cT, rfl⟩ := Kd.R_slice HJ2.out.row
      obtain ⟨⟨x0, x1, x2, x3⟩, y0, y1, y2, y3⟩ := cells4 HJ2.out.obj
      go_wp2
      go_region_law (first | (go_simp; go_at_call 33; (with_reducible refine (HN.out _ ?hS).mono ?_); (case hS => exact HJ2.out.drew.rd); rintro e w3 ⟨rfl, hS3, hK3⟩; have HJ3 := Aside0.mk (HJ2.out.drew.step hS3 HB2.out hK3); obtain ⟨⟨p0, p1, p2, p3⟩, q0, q1, q2, q3⟩ := cells4 HJ3.out.obj; have p1a : ∀ o : Obj, (w3.alloc o).cell? ⟨gO, 1, none⟩ = some (.slice AT ts.length cT) := (fun o => (cells4 (blk_alloc HJ3.out.obj o)).1.2.1); clear hS3 hK3 HN) | (refine Kd.R_append_step Kd.string (w0 := wa) wa.heap.size (by rfl) (.tmp 33) (.tmp 36) 46 55 (.string ⟨#[]⟩) 16 (by rfl) Try.underlying46 info55 rfl (by decide) (by omega) (.slice AT ts.length cT) ts t8 [.string t8] (fun _ => True) (fun _ => False) (by rfl) (by rfl) rfl (fun _ hk => hk.elim) (fun _ _ => trivial) HJ3.out.row HJ3.out.bel HJ3.out.bel.size (by have := HNK2.out; omega) ?_; intro v1 w4 hr4 hb4 hg4 hat4; obtain ⟨ts2, hns2⟩ : ∃ q, ts ++ [t8] = q := ⟨_, rfl⟩; rw [hns2] at hr4; have HNS := Aside0.mk hns2; clear hns2; obtain ⟨A4, c4, rfl⟩ := Kd.R_slice hr4; have HJ4 := Aside0.mk (HJ3.out.put hr4 hg4 hb4); obtain ⟨⟨r0, r1, r2, r3⟩, s0, s1, s2, s3⟩ := cells4 (blk_grown HJ3.out.obj hg4 (Kd.R_ne HJ3.out.row HJ3.out.obj (by decide))); clear hat4 hr4 hb4 hg4))
      all_goals
        go_wp2
        refine ⟨⟨k2 + 1, _, ts2, l4, b4, by go_num, by omega, ⟨by rw [← HNS.out, List.length_append, HNK2.out]; rfl⟩, HJ4, ⟨by rw [← HNS.out, List.append_assoc]; exact HE5.out⟩⟩, by simp [intOf]; omega⟩
    · have hkk : k2 = cnt := by omega
      subst hkk
      have hEE := HE4.out
      rw [Nat.sub_self, tl] at hEE
      simp only [List.append_nil] at hEE
      have HE6 := Aside0.mk hEE
      clear hEE HE4
      have HN := Aside0.mk (show ∀ (w1 : World), RS 73 wa w1 g l' b' → Calls Try.prog 33 #[.pointer (some ⟨g, 0, none⟩)] w1 fun e w' => e = .returned (.string (tx l' b').1) ∧ RS 73 wa w' g (tx l' b').2.1 (tx l' b').2.2 ∧ KeepBut w1 w' g none from fun w1 h => text_any wa w1 g l' b' h HJ2.out.b8)
      have HB2 := Aside0.mk (tx_B8 HJ2.out.b8 b')
      obtain ⟨t9, l9, b9, ht9⟩ : ∃ x y z, tx l' b' = (x, y, z) := ⟨_, _, _, rfl⟩
      rw [ht9] at HN HB2
      simp only at HN HB2
      have HT9 := Aside0.mk ht9
      clear ht9
      go_wp2_with fail
      refine (HN.out _ HJ2.out.rd).mono ?_
      rintro e_ w5 ⟨rfl, hS5, hK5⟩
      have HJ5 := Aside0.mk (HJ2.out.step hS5 HB2.out hK5)
      clear hS5 hK5 HN
      obtain ⟨⟨x0, x1, x2, x3⟩, y0, y1, y2, y3⟩ := cells4 HJ5.out.obj
      have hobj : (w5.setCell ⟨gO, 2, none⟩ (.string t9)).heap[gO]? = some (.cells #[.int .i64 0, vT, .string t9, .int .i64 N2] 48 (0, 0)) := by simpa using blk_set HJ5.out.obj 2 (.string t9)
      have hrow : Kd.string.R 55 (w5.setCell ⟨gO, 2, none⟩ (.string t9)) wa.heap.size (fun _ => True) vT ts := Kd.R_set HJ5.out.row HJ5.out.obj (by decide) 2 _
      have hrd : RS 73 wa (w5.setCell ⟨gO, 2, none⟩ (.string t9)) g l9 b9 := HJ5.out.rd.far HJ5.out.hO (fun e => HJ5.out.ne e.symm) _
      have hbel : Below wa.heap.size wa (w5.setCell ⟨gO, 2, none⟩ (.string t9)) := below_set HJ5.out.bel HJ5.out.hO
      go_upto_region 11 with fail
      generalize (w5.setCell ⟨gO, 2, none⟩ (.string t9)) = w6 at *
      have hres0 : w6.heap[w.heap.size]? = some z48 := by
        have h1 : wa.heap[w.heap.size]? = some z48 := by rw [← hwa]; exact heap_alloc_new w _
        have h2 : w.heap.size < wa.heap.size := by rw [← hwa]; simp
        exact (hbel.block w.heap.size h2).trans h1
      have HRES := Aside0.mk hres0
      obtain ⟨⟨z0, z1, z2, z3⟩, zf0, zf1, zf2, zf3⟩ := cells4 hres0
      obtain ⟨⟨v0, v1, v2, v3⟩, vf0, vf1, vf2, vf3⟩ := cells4 hobj
      obtain ⟨AR, cR, hI, hcR, hCR, hgR, hBR⟩ := hrd
      have hr0 := hI.c0
      have hr1 := hI.c1
      have htl : tl k2 l3 b3 = (ts, l', b') := Prod.ext HE6.out.1.symm HE6.out.2.symm
      have hdb : repBody p = (b9 || decide (0 < l9.length) || decide (100 < E1), E1, N2, ts, t9) := by
        unfold repBody
        rw [HT1.out]
        simp only
        rw [HT2.out]
        simp only
        rw [HUE.out]
        simp only
        rw [htl]
        simp only
        rw [HT9.out, HE1.out, HE2.out, HWN.out]
      have HDB := Aside0.mk hdb
      have hbw : Below w.heap.size w w6 := by
        have h1 : Below w.heap.size w wa := by rw [← hwa]; exact below_alloc (Below.refl _ w) _
        exact below_then h1 (by rw [← hwa]; simp) hbel
      have HBW := Aside0.mk hbw
      have hwl : w.heap.size ≤ wa.heap.size := by rw [← hwa]; simp
      have HRT := Aside0.mk (Kd.R_lower hrow hwl)
      have HOBJ := Aside0.mk hobj
      have hgo : w.heap.size < gO := by
        have h1 := HJ5.out.hO
        have h2 : w.heap.size < wa.heap.size := by rw [← hwa]; simp
        omega
      clear hI hcR hCR hgR hBR hres0 htl hdb hbw hrow hobj hbel HE6 x0 x1 x2 x3 y0 y1 y2 y3
      cases b9 with
      | true =>
        simp only [Bool.true_or] at HDB
        go_wp2_with fail
        have h3 := four HRES.out (.int .i64 0) (.slice none 0 0) (.string ⟨#[]⟩) (.int .i64 0)
        have hb3 : Below w.heap.size w ((((w6.setCell ⟨w.heap.size, 0, none⟩ (.int .i64 0)).setCell ⟨w.heap.size, 1, none⟩ (.slice none 0 0)).setCell ⟨w.heap.size, 2, none⟩ (.string ⟨#[]⟩)).setCell ⟨w.heap.size, 3, none⟩ (.int .i64 0)) := below_set (below_set (below_set (below_set HBW.out (Nat.le_refl _)) (Nat.le_refl _)) (Nat.le_refl _)) (Nat.le_refl _)
        generalize ((((w6.setCell ⟨w.heap.size, 0, none⟩ (.int .i64 0)).setCell ⟨w.heap.size, 1, none⟩ (.slice none 0 0)).setCell ⟨w.heap.size, 2, none⟩ (.string ⟨#[]⟩)).setCell ⟨w.heap.size, 3, none⟩ (.int .i64 0)) = wz at *
        obtain ⟨⟨g0, g1, g2, g3⟩, _, _, _, _⟩ := cells4 h3
        exact bodyPost_ret (v := .tuple #[.agg #[.int .i64 0, .slice none 0 0, .string ⟨#[]⟩, .int .i64 0], .int .i64 0, .int .i64 3]) (by simp [results, Try.results18, go_sem, g0, g1, g2, g3]) rfl (by unfold repPost; rw [HDB.out]; exact ⟨rfl, hb3⟩)
      | false =>
        simp only [Bool.false_or] at HDB
        by_cases hl9 : 0 < l9.length
        · rw [decide_eq_true hl9, Bool.true_or] at HDB
          go_wp2_with fail
          have h3 := four HRES.out (.int .i64 0) (.slice none 0 0) (.string ⟨#[]⟩) (.int .i64 0)
          have hb3 : Below w.heap.size w ((((w6.setCell ⟨w.heap.size, 0, none⟩ (.int .i64 0)).setCell ⟨w.heap.size, 1, none⟩ (.slice none 0 0)).setCell ⟨w.heap.size, 2, none⟩ (.string ⟨#[]⟩)).setCell ⟨w.heap.size, 3, none⟩ (.int .i64 0)) := below_set (below_set (below_set (below_set HBW.out (Nat.le_refl _)) (Nat.le_refl _)) (Nat.le_refl _)) (Nat.le_refl _)
          generalize ((((w6.setCell ⟨w.heap.size, 0, none⟩ (.int .i64 0)).setCell ⟨w.heap.size, 1, none⟩ (.slice none 0 0)).setCell ⟨w.heap.size, 2, none⟩ (.string ⟨#[]⟩)).setCell ⟨w.heap.size, 3, none⟩ (.int .i64 0)) = wz at *
          obtain ⟨⟨g0, g1, g2, g3⟩, _, _, _, _⟩ := cells4 h3
          exact bodyPost_ret (v := .tuple #[.agg #[.int .i64 0, .slice none 0 0, .string ⟨#[]⟩, .int .i64 0], .int .i64 0, .int .i64 3]) (by simp [results, Try.results18, go_sem, g0, g1, g2, g3]) rfl (by unfold repPost; rw [HDB.out]; exact ⟨rfl, hb3⟩)
        · rw [decide_eq_false hl9, Bool.false_or] at HDB
          by_cases hE9 : 100 < E1
          · rw [decide_eq_true hE9] at HDB
            have hE9' : (100 : Int) < (E1 : Int) := by omega
            go_wp2_with fail
            have h3 := four HRES.out (.int .i64 0) (.slice none 0 0) (.string ⟨#[]⟩) (.int .i64 0)
            have hb3 : Below w.heap.size w ((((w6.setCell ⟨w.heap.size, 0, none⟩ (.int .i64 0)).setCell ⟨w.heap.size, 1, none⟩ (.slice none 0 0)).setCell ⟨w.heap.size, 2, none⟩ (.string ⟨#[]⟩)).setCell ⟨w.heap.size, 3, none⟩ (.int .i64 0)) := below_set (below_set (below_set (below_set HBW.out (Nat.le_refl _)) (Nat.le_refl _)) (Nat.le_refl _)) (Nat.le_refl _)
            generalize ((((w6.setCell ⟨w.heap.size, 0, none⟩ (.int .i64 0)).setCell ⟨w.heap.size, 1, none⟩ (.slice none 0 0)).setCell ⟨w.heap.size, 2, none⟩ (.string ⟨#[]⟩)).setCell ⟨w.heap.size, 3, none⟩ (.int .i64 0)) = wz at *
            obtain ⟨⟨g0, g1, g2, g3⟩, _, _, _, _⟩ := cells4 h3
            exact bodyPost_ret (v := .tuple #[.agg #[.int .i64 0, .slice none 0 0, .string ⟨#[]⟩, .int .i64 0], .int .i64 0, .int .i64 3]) (by simp [results, Try.results18, go_sem, g0, g1, g2, g3]) rfl (by unfold repPost; rw [HDB.out]; exact ⟨rfl, hb3⟩)
          · rw [decide_eq_false hE9] at HDB
            have hE9' : ¬ (100 : Int) < (E1 : Int) := by omega
            have hwE : wrap64 (E1 : Int) = (E1 : Int) := w64n (by omega)
            obtain ⟨AT, cT, rfl⟩ := Kd.R_slice HRT.out
            have hobj7 : (w6.setCell ⟨gO, 0, none⟩ (.int .i64 (E1 : Int))).heap[gO]? = some (.cells #[.int .i64 (E1 : Int), .slice AT ts.length cT, .string t9, .int .i64 N2] 48 (0, 0)) := by simpa using blk_set HOBJ.out 0 (.int .i64 (E1 : Int))
            have hres7 : (w6.setCell ⟨gO, 0, none⟩ (.int .i64 (E1 : Int))).heap[w.heap.size]? = some z48 := blk_far HRES.out (by show w.heap.size ≠ gO; omega) _
            have hbw7 : Below w.heap.size w (w6.setCell ⟨gO, 0, none⟩ (.int .i64 (E1 : Int))) := below_set HBW.out (by omega)
            have hrt7 : Kd.string.R 55 (w6.setCell ⟨gO, 0, none⟩ (.int .i64 (E1 : Int))) w.heap.size (fun _ => True) (.slice AT ts.length cT) ts := Kd.R_set HRT.out HOBJ.out (by decide) 0 _
            go_upto_region 14 with fail
            generalize (w6.setCell ⟨gO, 0, none⟩ (.int .i64 (E1 : Int))) = w7 at *
            obtain ⟨⟨a0, a1, a2, a3⟩, af0, af1, af2, af3⟩ := cells4 hobj7
            obtain ⟨⟨d0, d1, d2, d3⟩, df0, df1, df2, df3⟩ := cells4 hres7
            have HR7 := Aside0.mk hres7
            have HT7 := Aside0.mk hrt7
            have HB7 := Aside0.mk hbw7
            clear hres7 hrt7 hbw7 hobj7
            go_wp2_with fail
            have h3 := four HR7.out (.int .i64 (E1 : Int)) (.slice AT ts.length cT) (.string t9) (.int .i64 N2)
            have hb3 : Below w.heap.size w ((((w7.setCell ⟨w.heap.size, 0, none⟩ (.int .i64 (E1 : Int))).setCell ⟨w.heap.size, 1, none⟩ (.slice AT ts.length cT)).setCell ⟨w.heap.size, 2, none⟩ (.string t9)).setCell ⟨w.heap.size, 3, none⟩ (.int .i64 N2)) := below_set (below_set (below_set (below_set HB7.out (Nat.le_refl _)) (Nat.le_refl _)) (Nat.le_refl _)) (Nat.le_refl _)
            have ht3 : Kd.string.R 55 ((((w7.setCell ⟨w.heap.size, 0, none⟩ (.int .i64 (E1 : Int))).setCell ⟨w.heap.size, 1, none⟩ (.slice AT ts.length cT)).setCell ⟨w.heap.size, 2, none⟩ (.string t9)).setCell ⟨w.heap.size, 3, none⟩ (.int .i64 N2)) w.heap.size (fun _ => True) (.slice AT ts.length cT) ts := Kd.R_set (Kd.R_set (Kd.R_set (Kd.R_set HT7.out HR7.out (by decide) 0 _) (blk_set HR7.out 0 _) (by decide) 1 _) (blk_set (blk_set HR7.out 0 _) 1 _) (by decide) 2 _) (blk_set (blk_set (blk_set HR7.out 0 _) 1 _) 2 _) (by decide) 3 _
            generalize ((((w7.setCell ⟨w.heap.size, 0, none⟩ (.int .i64 (E1 : Int))).setCell ⟨w.heap.size, 1, none⟩ (.slice AT ts.length cT)).setCell ⟨w.heap.size, 2, none⟩ (.string t9)).setCell ⟨w.heap.size, 3, none⟩ (.int .i64 N2)) = wz at *
            obtain ⟨⟨g0, g1, g2, g3⟩, _, _, _, _⟩ := cells4 h3
            exact bodyPost_ret (v := .tuple #[.agg #[.int .i64 (E1 : Int), .slice AT ts.length cT, .string t9, .int .i64 N2], .int .i64 n, .int .i64 0]) (by simp [results, Try.results18, go_sem, g0, g1, g2, g3]) rfl (by unfold repPost; rw [HDB.out]; exact ⟨_, rfl, ht3, hb3⟩)
end Go.Proofs.Ytoblfdloakkmmaa.Rd
