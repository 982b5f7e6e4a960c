/- For any two trees t and u (no condition): NarOne(t, u) hands back true. Own work. -/
import Derived.Test.YthhajkmeadapgaaEnK
namespace Go.Proofs.Ythhajkmeadapgaa.Tree
set_option linter.unusedVariables false
set_option linter.unusedSimpArgs false
open Go.RowKit Go.Proofs.Ythhajkmeadapgaa.PL Go.Proofs.Ythhajkmeadapgaa.Mn Go.Proofs.YthhajkmeadapgaaW.PrintWords Go.Proofs.YthhajkmeadapgaaW.PrintLast Go.Proofs.YthhajkmeadapgaaW.PrintMore
abbrev bx (t : S26) (A2 : Option Addr) (c2 : Nat) (A3 : Option Addr) (c3 : Nat) (A4 : Option Addr) (c4 : Nat) : Obj := .cells #[.int .i64 t.f0, .bool t.f1, .slice A2 t.f2.length c2, .slice A3 t.f3.length c3, .slice A4 t.f4.length c4] 26
/-- what a walk keeps of blocks and of what was there -/
structure Hd (w wr : World) (p q : Nat) (o1 o2 : Obj) : Prop where
  hp : wr.heap[p]? = some o1
  hq : wr.heap[q]? = some o2
  b : Below w.heap.size w wr
theorem Hd.step {w wr w2 : World} {p q : Nat} {o1 o2 : Obj} (h : Hd w wr p q o1 o2) (hb : Below wr.heap.size wr w2) : Hd w w2 p q o1 o2 :=
  ⟨(hb.block _ (blk_lt h.hp)).trans h.hp, (hb.block _ (blk_lt h.hq)).trans h.hq, below_then h.b h.b.size hb⟩
structure Rg (w wr : World) (p q : Nat) (o1 o2 : Obj) (A : Option Addr) (l : List Int) (B : Option Addr) (m : List Int) : Prop where
  hd : Hd w wr p q o1 o2
  c1 : (Kd.int .u8).C wr A l.length l
  c2 : (Kd.int .u8).C wr B m.length m
theorem Rg.step {w wr w2 : World} {p q : Nat} {o1 o2 : Obj} {A : Option Addr} {l : List Int} {B : Option Addr} {m : List Int} (h : Rg w wr p q o1 o2 A l B m) (hb : Below wr.heap.size wr w2) : Rg w w2 p q o1 o2 A l B m :=
  ⟨h.hd.step hb, Kd.C_below h.c1 hb, Kd.C_below h.c2 hb⟩
set_option maxRecDepth 20000 in
set_option maxHeartbeats 2000000 in
theorem NarOne_any (N M : Nat) (t u : S26) (A2 : Option Addr) (c2 : Nat) (A3 : Option Addr) (c3 : Nat) (A4 : Option Addr) (c4 : Nat) (B2 : Option Addr) (d2 : Nat) (B3 : Option Addr) (d3 : Nat) (B4 : Option Addr) (d4 : Nat) (w : World) (h : TR w t A2 c2 A3 c3 A4 c4) (hu : TR w u B2 d2 B3 d3 B4 d4) (hG : GT N t) (hG2 : GT M u) :
    Calls Try.prog 3 #[TV t A2 c2 A3 c3 A4 c4, TV u B2 d2 B3 d3 B4 d4] w fun e w' => e = .returned (.bool true) ∧ Below w.heap.size w w' := by
  have HT := Aside0.mk h
  have HU := Aside0.mk hu
  have HG := Aside0.mk (And.intro hG hG2)
  have HD : Aside0 (Hd w ((w.alloc (bx t A2 c2 A3 c3 A4 c4)).alloc (bx u B2 d2 B3 d3 B4 d4)) w.heap.size (w.heap.size + 1) (bx t A2 c2 A3 c3 A4 c4) (bx u B2 d2 B3 d3 B4 d4)) := by
    refine ⟨⟨blk_alloc (heap_alloc_new w _) _, ?_, below_alloc (below_alloc (Below.refl _ w) _) _⟩⟩
    have := heap_alloc_new (w.alloc (bx t A2 c2 A3 c3 A4 c4)) (bx u B2 d2 B3 d3 B4 d4)
    simpa using this
  clear h hu hG hG2
  go_enter Try.func3, Try.ntmps3
  go_upto_region 1 with fail
  obtain ⟨w1, hw1⟩ : ∃ x, ((w.alloc (bx t A2 c2 A3 c3 A4 c4)).alloc (bx u B2 d2 B3 d3 B4 d4)) = x := ⟨_, rfl⟩
  rw [hw1] at HD ⊢
  obtain ⟨q, hq⟩ : ∃ x, w.heap.size + 1 = x := ⟨_, rfl⟩
  rw [hq] at HD ⊢
  obtain ⟨p, hp⟩ : ∃ x, w.heap.size = x := ⟨_, rfl⟩
  clear hw1 hq hp p
  obtain ⟨x0, x1, x2, x3, x4⟩ := cells5 HD.out.hp
  go_wp2_with fail
  refine (heavy_any N t A2 c2 A3 c3 A4 c4 w1 (HT.out.below HD.out.b) HG.out.1).mono ?_
  rintro e_ w2 ⟨r, rfl, hb2, hr⟩
  have HD2 := Aside0.mk (HD.out.step hb2)
  have HR := Aside0.mk hr
  clear hb2 hr HD x0 x1 x2 x3 x4
  cases r with
  | true =>
    go_wp2_with fail
    exact bodyPost_ret (v := .bool true) (by simp [results, Try.results3, go_sem]) rfl ⟨rfl, HD2.out.b⟩
  | false =>
  obtain ⟨x0, x1, x2, x3, x4⟩ := cells5 HD2.out.hq
  go_wp2_with fail
  refine (heavy_any M u B2 d2 B3 d3 B4 d4 w2 (HU.out.below HD2.out.b) HG.out.2).mono ?_
  rintro e_ w3 ⟨r, rfl, hb3, hr⟩
  have HD3 := Aside0.mk (HD2.out.step hb3)
  have HR2 := Aside0.mk hr
  clear hb3 hr HD2 x0 x1 x2 x3 x4
  cases r with
  | true =>
    go_wp2_with fail
    exact bodyPost_ret (v := .bool true) (by simp [results, Try.results3, go_sem]) rfl ⟨rfl, HD3.out.b⟩
  | false =>
  have HL1 := Aside0.mk (all_le HG.out.1 (HR.out (by first | rfl | trivial)))
  have HL2 := Aside0.mk (all_le HG.out.2 (HR2.out (by first | rfl | trivial)))
  obtain ⟨x0, x1, x2, x3, x4⟩ := cells5 HD3.out.hp
  go_wp2_with fail
  refine (Encode_any N t A2 c2 A3 c3 A4 c4 w3 (HT.out.below HD3.out.b) HG.out.1 (by have := HL1.out; omega)).mono ?_
  rintro e_ w4 ⟨Ea, ca, rfl, hR4, hb4⟩
  have HD4 := Aside0.mk (HD3.out.step hb4)
  have HRa := Aside0.mk (Kd.R_reads' hR4)
  clear hR4 hb4 HD3 x0 x1 x2 x3 x4
  obtain ⟨x0, x1, x2, x3, x4⟩ := cells5 HD4.out.hq
  obtain ⟨ea, hea⟩ : ∃ x, (chk N t 1 0).1 = x := ⟨_, rfl⟩
  obtain ⟨la, hla⟩ : ∃ x, encB N t = x := ⟨_, rfl⟩
  rw [hea, hla]
  rw [hla] at HRa
  have HEA := Aside0.mk (And.intro hea hla)
  clear hea hla
  go_wp2_with fail
  refine (Encode_any M u B2 d2 B3 d3 B4 d4 w4 (HU.out.below HD4.out.b) HG.out.2 (by have := HL2.out; omega)).mono ?_
  rintro e_ w5 ⟨Eb, cb, rfl, hR5, hb5⟩
  have HD5 := Aside0.mk (HD4.out.step hb5)
  have HRa5 : Aside0 (la.length ≤ ca ∧ (Kd.int .u8).C w5 Ea la.length la) := ⟨HRa.out.2.1, Kd.C_below HRa.out.2.2 hb5⟩
  have HRb := Aside0.mk (Kd.R_reads' hR5)
  obtain ⟨eb, heb⟩ : ∃ x, (chk M u 1 0).1 = x := ⟨_, rfl⟩
  obtain ⟨lb, hlb⟩ : ∃ x, encB M u = x := ⟨_, rfl⟩
  rw [heb, hlb]
  rw [hlb] at HRb
  have HEB := Aside0.mk (And.intro heb hlb)
  have HRb5 : Aside0 (lb.length ≤ cb ∧ (Kd.int .u8).C w5 Eb lb.length lb) := ⟨HRb.out.2.1, HRb.out.2.2⟩
  clear heb hlb hR5 hb5 HRa HRb HD4 x0 x1 x2 x3 x4
  have ways : (ea = 0 ∧ eb = 0) ∨ ((ea != 0) = true) ∨ (ea = 0 ∧ (eb != 0) = true) := by
    by_cases h1 : ea = 0
    · by_cases h2 : eb = 0
      · exact .inl ⟨h1, h2⟩
      · exact .inr (.inr ⟨h1, by simpa using h2⟩)
    · exact .inr (.inl (by simpa using h1))
  rcases ways with ⟨rfl, rfl⟩ | h1 | ⟨rfl, h2⟩
  · have hla : la.length ≤ 1000000 := by
      have := HL1.out
      rw [← HEA.out.2]; unfold encB; rw [if_pos HEA.out.1]; exact this
    have hres : decide (la = lb) = eqT t u := by
      rw [← HEA.out.2, ← HEB.out.2]
      unfold encB
      rw [if_pos HEA.out.1, if_pos HEB.out.1, Bool.eq_iff_iff, eqT_iff, decide_eq_true_iff]
      exact all_inj HG.out.1 (chk_ok _ _ _ _ HG.out.1 HEA.out.1) HG.out.2 (chk_ok _ _ _ _ HG.out.2 HEB.out.1)
    obtain ⟨bb, hbb⟩ : ∃ b, eqT t u = b := ⟨_, rfl⟩
    have HRES := Aside0.mk (And.intro (hres.trans hbb) hbb)
    clear hres hbb
    go_upto_region 7 with fail
    have HC := Aside0.mk (And.intro HRa5.out.1 HRb5.out.1)
    have HS : Aside0 (Rg w w5.drew w.heap.size q (bx t A2 c2 A3 c3 A4 c4) (bx u B2 d2 B3 d3 B4 d4) Ea la Eb lb) := ⟨⟨HD5.out.step (below_drew (Below.refl _ _)), Kd.C_below HRa5.out.2 (below_drew (Below.refl _ _)), Kd.C_below HRb5.out.2 (below_drew (Below.refl _ _))⟩⟩
    clear HD5 HRa5 HRb5
    obtain ⟨x0, x1, x2, x3, x4⟩ := cells5 HS.out.hd.hp
    obtain ⟨y0, y1, y2, y3, y4⟩ := cells5 HS.out.hd.hq
    cases bb
    all_goals
     go_region_law (first | (go_simp; go_at_call 13; (with_reducible refine (same_any la lb Ea Eb ca cb _ HS.out.c1 HC.out.1 HS.out.c2 HC.out.2 (by omega)).mono ?_); rintro e w6 ⟨he, hb6⟩; rw [HRES.out.1] at he; subst he; have HS := Aside0.mk (HS.out.step hb6); obtain ⟨x0, x1, x2, x3, x4⟩ := cells5 HS.out.hd.hp; obtain ⟨y0, y1, y2, y3, y4⟩ := cells5 HS.out.hd.hq; clear hb6) | (go_simp; go_at_call 14; (with_reducible refine (Equal_any N M t u A2 c2 A3 c3 A4 c4 B2 d2 B3 d3 B4 d4 _ (HT.out.below HS.out.hd.b) (HU.out.below HS.out.hd.b) HG.out.1 HG.out.2).mono ?_); rintro e w7 ⟨he, hb7⟩; rw [HRES.out.2] at he; subst he; have HS := Aside0.mk (HS.out.step hb7); obtain ⟨x0, x1, x2, x3, x4⟩ := cells5 HS.out.hd.hp; obtain ⟨y0, y1, y2, y3, y4⟩ := cells5 HS.out.hd.hq; clear hb7) | (go_simp; go_at_call 12; (with_reducible refine (known_any _).mono ?_); rintro e w8 ⟨rfl, hb8⟩; have HS := Aside0.mk (HS.out.step hb8); clear hb8))
    all_goals
      go_wp2_with fail
      exact bodyPost_ret (v := .bool true) (by simp [results, Try.results3, go_sem]) rfl ⟨rfl, HS.out.hd.b⟩
  · go_wp2_with fail
    refine (known_any w5).mono ?_
    rintro e_ w6 ⟨rfl, hb6⟩
    have HD6 := Aside0.mk (HD5.out.step hb6)
    clear hb6
    go_wp2_with fail
    exact bodyPost_ret (v := .bool true) (by simp [results, Try.results3, go_sem]) rfl ⟨rfl, HD6.out.b⟩
  · go_wp2_with fail
    refine (known_any w5).mono ?_
    rintro e_ w6 ⟨rfl, hb6⟩
    have HD6 := Aside0.mk (HD5.out.step hb6)
    clear hb6
    go_wp2_with fail
    exact bodyPost_ret (v := .bool true) (by simp [results, Try.results3, go_sem]) rfl ⟨rfl, HD6.out.b⟩
theorem NarOne_row (N : Nat) (t : S26) (A2 : Option Addr) (c2 : Nat) (A3 : Option Addr) (c3 : Nat) (A4 : Option Addr) (c4 : Nat) (M : Nat) (u : S26) (B2 : Option Addr) (d2 : Nat) (B3 : Option Addr) (d3 : Nat) (B4 : Option Addr) (d4 : Nat) (w : World) (h : TR w t A2 c2 A3 c3 A4 c4) (hG : GT N t) (hu : TR w u B2 d2 B3 d3 B4 d4) (hG2 : GT M u) :
    Calls Try.prog 3 #[TV t A2 c2 A3 c3 A4 c4, TV u B2 d2 B3 d3 B4 d4] w fun e w' => e = .returned (.bool true) ∧ Below w.heap.size w w' := NarOne_any N M t u A2 c2 A3 c3 A4 c4 B2 d2 B3 d3 B4 d4 w h hu hG hG2
end Go.Proofs.Ythhajkmeadapgaa.Tree
