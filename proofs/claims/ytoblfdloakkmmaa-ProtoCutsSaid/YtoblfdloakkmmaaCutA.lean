/- proto: the law ProtoCuts, walked. Own work. -/
import Derived.Test.YtoblfdloakkmmaaRdJ
import Derived.Outline
namespace Go.Proofs.Ytoblfdloakkmmaa.Rd
set_option linter.unusedVariables false
set_option linter.unusedSimpArgs false
open Go.RowKit Go.Proofs.Ytoblfdloakkmmaa.Mp Go.Proofs.Ytoblfdloakkmmaa.PL Go.Proofs.YtoblfdloakkmmaaW.PrintWords Go.Proofs.YtoblfdloakkmmaaW.PrintLast Go.Proofs.YtoblfdloakkmmaaW.PrintMore

theorem cuts_heavy (k : Nat) (a0 : Int) (A1 : Option Addr) (c1 : Nat) (l1 : List Int) (A2 : Option Addr) (c2 : Nat) (l2 : List ByteArray) (a3 : Int) (w : World) (hr2 : Kd.C Kd.string w A2 l2.length l2) (hc2 : l2.length ≤ c2)
    (hH : pantrylaw26_heavy.f k l2 (l1.length : Int) = some true) :
    Calls Try.prog 6 #[.int .i64 a0, .slice A1 l1.length c1, .slice A2 l2.length c2, .int .i64 a3] w fun e w' => e = .returned (.bool true) ∧ Below w.heap.size w w' := by
  have HH := Aside0.mk hH
  clear hH
  go_enter Try.func6, Try.ntmps6
  go_wp2_with (go_at_call 9; refine (pantrylaw26_heavy.calls k A2 c2 l2 _ true _ hr2 hc2 HH.out).mono ?_; rintro e w1 ⟨rfl, hd⟩; have HB := Aside0.mk hd.below; clear hd)
  go_ret
  exact ⟨rfl, HB.out⟩
set_option maxHeartbeats 400000 in
theorem cuts_refused (k : Nat) (a0 : Int) (A1 : Option Addr) (c1 : Nat) (l1 : List Int) (A2 : Option Addr) (c2 : Nat) (l2 : List ByteArray) (a3 : Int) (w : World) (hr1 : Kd.C (Kd.int .i64) w A1 l1.length l1) (hc1 : l1.length ≤ c1) (hr2 : Kd.C Kd.string w A2 l2.length l2) (hc2 : l2.length ≤ c2)
    (hH : pantrylaw26_heavy.f k l2 (l1.length : Int) = some false) (b : List Int) (e : Int) (he : e ≠ 0) (hE : proto_Encode.f k a0 l1 l2 = some (b, e)) (hK : pantrylaw26_known.f k = some true) :
    Calls Try.prog 6 #[.int .i64 a0, .slice A1 l1.length c1, .slice A2 l2.length c2, .int .i64 a3] w fun e w' => e = .returned (.bool true) ∧ Below w.heap.size w w' := by
  have HH := Aside0.mk hH
  have HE := Aside0.mk hE
  have HK := Aside0.mk hK
  have HR1 := Aside0.mk hr1
  have HR2 := Aside0.mk hr2
  have hne : (e != 0) = true := by simpa using he
  clear hH hE hK hr1 hr2
  go_enter Try.func6, Try.ntmps6
  go_wp2_with (first | (go_at_call 9; refine (pantrylaw26_heavy.calls k A2 c2 l2 _ false _ HR2.out hc2 HH.out).mono ?_; rintro e w1 ⟨rfl, hd⟩; have HB := Aside0.mk hd.below; clear hd) | (go_at_call 10; refine (proto_Encode.calls k a0 A1 c1 l1 A2 c2 l2 b _ _ (Kd.C_below HR1.out HB.out) hc1 (Kd.C_below HR2.out HB.out) hc2 HE.out).mono ?_; rintro e w2 ⟨v, rfl, hr, hb⟩; obtain ⟨A9, c9, rfl⟩ := Kd.R_slice hr; have HB2 := Aside0.mk (below_then HB.out HB.out.size hb); clear hb hr) | (go_at_call 14; refine (pantrylaw26_known.calls k true _ HK.out).mono ?_; rintro e w3 ⟨rfl, hb⟩; have HB3 := Aside0.mk (below_then HB2.out HB2.out.size hb); clear hb))
  go_ret
  exact ⟨rfl, HB3.out⟩
set_option maxHeartbeats 400000 in
theorem cuts_cut (k : Nat) (a0 : Int) (A1 : Option Addr) (c1 : Nat) (l1 : List Int) (A2 : Option Addr) (c2 : Nat) (l2 : List ByteArray) (a3 : Int) (w : World) (hr1 : Kd.C (Kd.int .i64) w A1 l1.length l1) (hc1 : l1.length ≤ c1) (hr2 : Kd.C Kd.string w A2 l2.length l2) (hc2 : l2.length ≤ c2)
    (hH : pantrylaw26_heavy.f k l2 (l1.length : Int) = some false) (b : List Int) (hE : proto_Encode.f k a0 l1 l2 = some (b, 0)) (x : Nat) (hb0 : b.length ≠ 0) (hx : x < b.length) (hxx : (Go.bits .and .i64 a3 1073741823).tmod (b.length : Int) = (x : Int))
    (hD : decF (b.take x) = some (0, [], [], 0, 2)) (hO : pantrylaw26_ops.f k 0 [] [] 0 [] [] = some true) (hK : pantrylaw26_known.f k = some true) :
    Calls Try.prog 6 #[.int .i64 a0, .slice A1 l1.length c1, .slice A2 l2.length c2, .int .i64 a3] w fun e w' => e = .returned (.bool true) ∧ Below w.heap.size w w' := by
  have HH := Aside0.mk hH
  have HE := Aside0.mk hE
  have HK := Aside0.mk hK
  have HD := Aside0.mk hD
  have HO := Aside0.mk hO
  have HR1 := Aside0.mk hr1
  have HR2 := Aside0.mk hr2
  have hb1 : ((b.length : Int) == 0) = false := by simp; intro h; simp [h] at hb0
  clear hH hE hK hr1 hr2 hD hO
  go_enter Try.func6, Try.ntmps6
  go_wp2_with (first | (go_at_call 9; refine (pantrylaw26_heavy.calls k A2 c2 l2 _ false _ HR2.out hc2 HH.out).mono ?_; rintro e w1 ⟨rfl, hd⟩; have HB := Aside0.mk hd.below; clear hd) | (go_at_call 10; refine (proto_Encode.calls k a0 A1 c1 l1 A2 c2 l2 b _ _ (Kd.C_below HR1.out HB.out) hc1 (Kd.C_below HR2.out HB.out) hc2 HE.out).mono ?_; rintro e w2 ⟨v, rfl, hr, hb⟩; obtain ⟨A9, c9, rfl⟩ := Kd.R_slice hr; have HR9 := Aside0.mk hr; have hxc : x ≤ c9 := Nat.le_trans (Nat.le_of_lt hx) (Kd.R_reads' hr).2.1; have HB2 := Aside0.mk (below_then HB.out HB.out.size hb); clear hb hr) | (go_at_call 14; refine (pantrylaw26_known.calls k true _ HK.out).mono ?_; rintro e w3 ⟨rfl, hb⟩; have HB3 := Aside0.mk (below_then HB2.out HB2.out.size hb); clear hb))
  have hlx : (b.take x).length = x := by rw [List.length_take]; omega
  have hDC : ∀ w2 : World, (Kd.int .u8).C w2 A9 b.length b → b.length ≤ c9 → Calls Try.prog 15 #[.slice A9 x c9] w2 fun e w' => ∃ A1 c1 A2 c2, e = .returned (.tuple #[.agg #[.int .i64 0, .slice A1 0 c1, .slice A2 0 c2], .int .i64 0, .int .i64 2]) ∧ (∀ o : World, o = w' → (Kd.int .i64).C w' A1 0 [] ∧ Kd.string.C w' A2 0 []) ∧ Below w2.heap.size w2 w' := by
    intro w2 hC hc
    have hC' : (Kd.int .u8).C w2 A9 (b.take x).length (b.take x) := by
      rw [hlx]
      exact Kd.C_of_reads (h1 := fun _ => rfl) ((Kd.reads_of_C (d := (0 : Int)) hC).take_ x (by omega))
    have h := decF_calls A9 c9 (b.take x) 0 [] [] 0 2 w2 hC' (by omega) HD.out
    rw [hlx] at h
    refine h.mono ?_
    rintro e w' ⟨v1, v2, rfl, hr1, hr2, hb⟩
    obtain ⟨B1, d1, rfl⟩ := Kd.R_slice hr1
    obtain ⟨B2, d2, rfl⟩ := Kd.R_slice hr2
    exact ⟨B1, d1, B2, d2, rfl, fun _ _ => ⟨(Kd.R_reads' hr1).2.2, (Kd.R_reads' hr2).2.2⟩, hb⟩
  refine (hDC _ (Kd.R_reads' HR9.out).2.2 (Kd.R_reads' HR9.out).2.1).mono ?_
  rintro e w3 ⟨B1, d1, B2, d2, rfl, hCC, hb⟩
  have HCC := Aside0.mk (hCC _ rfl)
  have HB3 := Aside0.mk (below_then HB2.out HB2.out.size hb)
  clear hDC hCC hb
  have hOC : ∀ (w4 : World), (Kd.int .i64).C w4 B1 0 [] → Kd.string.C w4 B2 0 [] → Calls Try.prog 13 #[.agg #[.int .i64 0, .slice B1 0 d1, .slice B2 0 d2], .agg #[.int .i64 0, .slice none 0 0, .slice none 0 0]] w4 fun e w' => e = .returned (.bool true) ∧ Below w4.heap.size w4 w' := fun w4 h1 h2 => pantrylaw26_ops.calls k 0 B1 d1 [] B2 d2 [] 0 none 0 [] none 0 [] true w4 h1 (Nat.zero_le _) h2 (Nat.zero_le _) (Kd.C_nil _ _) (Nat.le_refl _) (Kd.C_nil _ _) (Nat.le_refl _) HO.out
  have HOC := Aside0.mk hOC
  clear hOC
  go_wp2_with (first | (go_at_call 13; refine (HOC.out _ (Kd.C_alloc HCC.out.1 _) (Kd.C_alloc HCC.out.2 _)).mono ?_; rintro e w4 ⟨rfl, hb⟩; have HB4 := Aside0.mk (below_then (below_alloc HB3.out _) (Nat.le_trans HB3.out.size (by simp)) hb); clear hb) | (go_at_call 14; refine (pantrylaw26_known.calls k true _ HK.out).mono ?_; rintro e w5 ⟨rfl, hb⟩; have HB5 := Aside0.mk (below_then HB4.out HB4.out.size hb); clear hb))
  go_ret
  exact ⟨rfl, HB5.out⟩
end Go.Proofs.Ytoblfdloakkmmaa.Rd
