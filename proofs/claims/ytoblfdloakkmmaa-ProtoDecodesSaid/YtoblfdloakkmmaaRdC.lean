/- proto's reader: bounded numbers and texts. Own work. -/
import Derived.Test.YtoblfdloakkmmaaRdB
namespace Go.Proofs.Ytoblfdloakkmmaa.Rd
set_option linter.unusedVariables false
set_option linter.unusedSimpArgs false
open Go.RowKit Go.Proofs.Ytoblfdloakkmmaa.Mp Go.Proofs.Ytoblfdloakkmmaa.PL Go.Proofs.YtoblfdloakkmmaaW.PrintWords Go.Proofs.YtoblfdloakkmmaaW.PrintLast Go.Proofs.YtoblfdloakkmmaaW.PrintMore

theorem tk_len (l : List Int) (bad : Bool) (m : Nat) : (tk l bad m).1.length ≤ m ∧ (tk l bad m).2.1.length ≤ l.length := by
  unfold tk; split
  · simp; omega
  · simp; omega
theorem tk_B8 {l : List Int} (hb : B8 l) (bad : Bool) (m : Nat) : B8 (tk l bad m).1 ∧ B8 (tk l bad m).2.1 := by
  unfold tk; split
  · exact ⟨B8.rep _, hb⟩
  · exact ⟨hb.take _, hb.drop _⟩
theorem V4 {l : List Int} (hb : B8 l) (bad : Bool) : V (tk l bad 4).1 < 4294967296 := by
  have h1 := V_lt (tk_B8 hb bad 4).1
  have h2 : 256 ^ (tk l bad 4).1.length ≤ 256 ^ 4 := Nat.pow_le_pow_right (by decide) (tk_len l bad 4).1
  omega
/-- the next number of four bytes, if it is not above another one -/
def up (l : List Int) (bad : Bool) (most : Nat) : Nat × List Int × Bool :=
  let b2 := (tk l bad 4).2.2 || decide (most < V (tk l bad 4).1)
  (if b2 = true then 0 else V (tk l bad 4).1, (tk l bad 4).2.1, b2)
theorem RS.one {T : Nat} {w0 w : World} {g : Nat} {l : List Int} {bad : Bool} (h : RS T w0 w g l bad) (b : Bool) : RS T w0 (w.setCell ⟨g, 1, none⟩ (.bool b)) g l b := by
  obtain ⟨A, c, hI, hc, hC, hg, hB⟩ := h
  exact ⟨A, c, hI.set1 b, hc, hC, hg, below_set hB hg⟩
theorem RS.c1 {T : Nat} {w0 w : World} {g : Nat} {l : List Int} {bad : Bool} (h : RS T w0 w g l bad) : w.cell? ⟨g, 1, none⟩ = some (.bool bad) := by
  obtain ⟨A, c, hI, _⟩ := h
  exact hI.c1
theorem RS.f1 {T : Nat} {w0 w : World} {g : Nat} {l : List Int} {bad : Bool} (h : RS T w0 w g l bad) : w.frozen? ⟨g, 1, none⟩ = false := by
  obtain ⟨A, c, hI, _⟩ := h
  exact hI.fr 1
set_option maxHeartbeats 1000000 in
theorem upTo_any (w0 w : World) (g most : Nat) (l : List Int) (bad : Bool) (hS : RS 73 w0 w g l bad) (hb : B8 l) (hm : most < 4294967296) :
    Calls Try.prog 31 #[.pointer (some ⟨g, 0, none⟩), .int .i64 (most : Int)] w fun e w' => e = .returned (.int .i64 (((up l bad most).1 : Nat) : Int)) ∧
      RS 73 w0 w' g (up l bad most).2.1 (up l bad most).2.2 ∧ KeepBut w w' g none := by
  have HT := Aside0.mk (number_any w0 w g 4 l bad hS (by omega) hb)
  have hv4 := V4 hb bad
  unfold up
  obtain ⟨out, rest, bad2, ht⟩ : ∃ a b c, tk l bad 4 = (a, b, c) := ⟨_, _, _, rfl⟩
  rw [ht] at hv4 HT ⊢
  clear ht hS
  simp only at hv4 HT ⊢
  generalize V out = n at *
  have hmw : IntKind.u64.wrap (most : Int) = (most : Int) := wu64 (by omega) (by omega)
  by_cases hgt : most < n
  · have e1 : (bad2 || decide (most < n)) = true := by simp [hgt]
    rw [e1]
    clear e1
    go_enter Try.func31, Try.ntmps31
    go_wp2_with (go_at_call 32; refine HT.out.mono ?_; rintro e w1 ⟨rfl, hS2, hK⟩; have hc1 := hS2.c1; have hf1 := hS2.f1; have HS2 := Aside0.mk hS2; have HK := Aside0.mk hK; clear hS2 hK HT)
    go_ret
    exact ⟨rfl, HS2.out.one true, KeepBut.set_ HK.out 1 _⟩
  · cases bad2 with
    | true =>
      have e1 : (true || decide (most < n)) = true := rfl
      rw [e1]
      clear e1
      go_enter Try.func31, Try.ntmps31
      go_wp2_with (go_at_call 32; refine HT.out.mono ?_; rintro e w1 ⟨rfl, hS2, hK⟩; have hc1 := hS2.c1; have HS2 := Aside0.mk hS2; have HK := Aside0.mk hK; clear hS2 hK HT)
      go_ret
      exact ⟨rfl, HS2.out, HK.out⟩
    | false =>
      have e1 : (false || decide (most < n)) = false := by simp [hgt]
      rw [e1]
      clear e1
      go_enter Try.func31, Try.ntmps31
      go_wp2_with (go_at_call 32; refine HT.out.mono ?_; rintro e w1 ⟨rfl, hS2, hK⟩; have hc1 := hS2.c1; have HS2 := Aside0.mk hS2; have HK := Aside0.mk hK; clear hS2 hK HT)
      go_ret
      exact ⟨rfl, HS2.out, HK.out⟩
/-- the next text -/
def tx (l : List Int) (bad : Bool) : ByteArray × List Int × Bool :=
  let u := up l bad 4194304
  let t := tk u.2.1 u.2.2 u.1
  (if t.2.2 = true then ⟨#[]⟩ else strOfNums t.1, t.2.1, t.2.2)
set_option maxHeartbeats 1000000 in
theorem text_any (w0 w : World) (g : Nat) (l : List Int) (bad : Bool) (hS : RS 73 w0 w g l bad) (hb : B8 l) :
    Calls Try.prog 33 #[.pointer (some ⟨g, 0, none⟩)] w fun e w' => e = .returned (.string (tx l bad).1) ∧
      RS 73 w0 w' g (tx l bad).2.1 (tx l bad).2.2 ∧ KeepBut w w' g none := by
  have HU := Aside0.mk (upTo_any w0 w g 4194304 l bad hS hb (by omega))
  unfold tx
  obtain ⟨n, rest, bad2, hu⟩ : ∃ a b c, up l bad 4194304 = (a, b, c) := ⟨_, _, _, rfl⟩
  rw [hu] at HU ⊢
  clear hu hS
  simp only at HU ⊢
  have HT := Aside0.mk (fun (w1 : World) (h : RS 73 w0 w1 g rest bad2) => take_any w0 w1 g n rest bad2 h)
  obtain ⟨out, rest2, bad3, ht⟩ : ∃ a b c, tk rest bad2 n = (a, b, c) := ⟨_, _, _, rfl⟩
  rw [ht] at HT ⊢
  clear ht
  simp only at HT ⊢
  have hk2 : ∀ {a b c : World}, KeepBut a b g none → KeepBut b c g none → KeepBut a c g none := fun h k => h.trans k (.inl rfl)
  have HK2 := Aside0.mk (@hk2)
  clear hk2
  cases bad3 with
  | true =>
    go_enter Try.func33, Try.ntmps33
    go_wp2_with (first | (go_at_call 31; refine HU.out.mono ?_; rintro e w1 ⟨rfl, hS2, hK⟩; have HS2 := Aside0.mk hS2; have HK := Aside0.mk hK; clear hS2 hK HU) | (go_at_call 42; refine (HT.out _ HS2.out).mono ?_; rintro e w2 ⟨A2, c2, rfl, hc2, hC2, hS3, hK3⟩; have hc1 := hS3.c1; have HS3 := Aside0.mk hS3; have HK3 := Aside0.mk hK3; clear hS3 hK3 hC2 HT))
    go_ret
    exact ⟨rfl, HS3.out, HK2.out HK.out HK3.out⟩
  | false =>
    go_enter Try.func33, Try.ntmps33
    go_wp2_with (first | (go_at_call 31; refine HU.out.mono ?_; rintro e w1 ⟨rfl, hS2, hK⟩; have HS2 := Aside0.mk hS2; have HK := Aside0.mk hK; clear hS2 hK HU) | (go_at_call 42; refine (HT.out _ HS2.out).mono ?_; rintro e w2 ⟨A2, c2, rfl, hc2, hC2, hS3, hK3⟩; have hc1 := hS3.c1; have hcv := Kd.C_string (P := Try.prog) (src := 27) (dst := 9) (e := 5) (c := c2) Try.underlying27 Try.underlying5 Try.underlying9 hC2; have HS3 := Aside0.mk hS3; have HK3 := Aside0.mk hK3; clear hS3 hK3 hC2 HT))
    go_ret
    exact ⟨rfl, HS3.out, HK2.out HK.out HK3.out⟩
end Go.Proofs.Ytoblfdloakkmmaa.Rd
