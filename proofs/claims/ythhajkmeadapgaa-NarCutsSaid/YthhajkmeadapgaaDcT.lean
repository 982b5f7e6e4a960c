/- For any tree t (no condition) and any number at: NarCuts(t, at) hands back true. Own work. -/
import Derived.Test.YthhajkmeadapgaaDcS
import Derived.Test.YthhajkmeadapgaaDcR
namespace Go.Proofs.Ythhajkmeadapgaa.Tree
set_option linter.unusedVariables false
set_option linter.unusedSimpArgs false
open Go.RowKit Go.Proofs.Ythhajkmeadapgaa.PL Go.Proofs.Ythhajkmeadapgaa.Mn Go.Proofs.YthhajkmeadapgaaW.PrintWords Go.Proofs.YthhajkmeadapgaaW.PrintLast Go.Proofs.YthhajkmeadapgaaW.PrintMore
theorem and30 (a : Int) : ∃ m : Nat, Go.bits .and .i64 a 1073741823 = (m : Int) ∧ m < 1073741824 := by
  have h : (BitVec.ofInt 64 a &&& BitVec.ofInt 64 1073741823).toNat ≤ 1073741823 := by
    rw [BitVec.toNat_and]
    exact Nat.le_trans Nat.and_le_right (by decide)
  refine ⟨(BitVec.ofInt 64 a &&& BitVec.ofInt 64 1073741823).toNat, ?_, by omega⟩
  have hb : Go.bits .and .i64 a 1073741823 = IntKind.i64.wrap (((BitVec.ofInt 64 a &&& BitVec.ofInt 64 1073741823).toNat : Nat) : Int) := rfl
  rw [hb]
  generalize (BitVec.ofInt 64 a &&& BitVec.ofInt 64 1073741823).toNat = t at *
  rw [IntKind.wrap_i64]
  omega
theorem at_cut (a : Int) {n : Nat} (h : 0 < n) : ∃ x : Nat, x < n ∧ (Go.bits .and .i64 a 1073741823).tmod (n : Int) = (x : Int) := by
  obtain ⟨m, hm, -⟩ := and30 a
  exact ⟨m % n, Nat.mod_lt _ h, by rw [hm]; exact (Int.ofNat_tmod m n)⟩
set_option maxRecDepth 20000 in
set_option maxHeartbeats 4000000 in
theorem NarCuts_any (N : Nat) (t : S26) (A2 : Option Addr) (c2 : Nat) (A3 : Option Addr) (c3 : Nat) (A4 : Option Addr) (c4 : Nat) (a : Int) (w : World) (h : TR w t A2 c2 A3 c3 A4 c4) (hG : GT N t) :
    Calls Try.prog 7 #[TV t A2 c2 A3 c3 A4 c4, .int .i64 a] w fun e w' => e = .returned (.bool true) ∧ Below w.heap.size w w' := by
  have HT := Aside0.mk h
  have HG := Aside0.mk hG
  have HD : Aside0 (Bk w (w.alloc (bx t A2 c2 A3 c3 A4 c4)) w.heap.size (bx t A2 c2 A3 c3 A4 c4) none []) := ⟨⟨heap_alloc_new w _, below_alloc (Below.refl _ w) _, Kd.C_nil _ _⟩⟩
  clear h hG
  go_enter Try.func7, Try.ntmps7
  go_upto_region 1 with fail
  obtain ⟨w1, hw1⟩ : ∃ x, (w.alloc (bx t A2 c2 A3 c3 A4 c4)) = x := ⟨_, rfl⟩
  rw [hw1] at HD ⊢
  obtain ⟨p, hp⟩ : ∃ x, w.heap.size = x := ⟨_, rfl⟩
  rw [hp] at HD ⊢
  have HP : Aside0 (w.heap.size = p) := ⟨hp⟩
  clear hw1 hp
  obtain ⟨x0, x1, x2, x3, x4⟩ := cells5 HD.out.hp
  go_wp2_with fail
  refine (heavy_any N t A2 c2 A3 c3 A4 c4 w1 (HT.out.below HD.out.lo) HG.out).mono ?_
  rintro e_ w2 ⟨r, rfl, hb2, hr⟩
  have HD2 := Aside0.mk (HD.out.step hb2)
  have HR := Aside0.mk hr
  clear hb2 hr HD x0 x1 x2 x3 x4
  cases r with
  | true =>
    go_wp2_with fail
    exact bodyPost_ret (v := .bool true) (by simp [results, Try.results7, go_sem]) rfl ⟨rfl, HD2.out.lo⟩
  | false =>
  have HL := Aside0.mk (all_le HG.out (HR.out (by first | rfl | trivial)))
  clear HR
  obtain ⟨x0, x1, x2, x3, x4⟩ := cells5 HD2.out.hp
  go_wp2_with fail
  refine (Encode_any N t A2 c2 A3 c3 A4 c4 w2 (HT.out.below HD2.out.lo) HG.out (by have := HL.out; omega)).mono ?_
  rintro e_ w4 ⟨Ea, ca, rfl, hR4, hb4⟩
  have HD4 := Aside0.mk (HD2.out.step hb4)
  have HRa := Aside0.mk (And.intro (Kd.R_reads' hR4).2 (encB_B8 N t))
  clear hR4 hb4 HD2 x0 x1 x2 x3 x4
  have HCUT := Aside0.mk (fun hc m hm => readS_cut (N := N) (t := t) HG.out hc m hm)
  have HMORE := Aside0.mk (fun hc x => readS_more (N := N) (t := t) HG.out hc x)
  have H16 := Aside0.mk (fun hc => enc_16 (N := N) (t := t) HG.out hc)
  have HLA : Aside0 ((encB N t).length ≤ 1000000) := ⟨by unfold encB; split; exact HL.out; exact Nat.zero_le _⟩
  obtain ⟨ea, hea⟩ : ∃ x, (chk N t 1 0).1 = x := ⟨_, rfl⟩
  obtain ⟨la, hla⟩ : ∃ x, encB N t = x := ⟨_, rfl⟩
  rw [hea, hla]
  rw [hla] at HRa HLA
  rw [hea, hla] at HCUT HMORE H16
  clear hea hla
  by_cases h0 : ea = 0
  · subst h0
    have hl16 : decide ((la.length : Int) < 16) = false := by have := H16.out rfl; simp; omega
    have hl0 : ((la.length : Int) == 0) = false := by have := H16.out rfl; exact beq_eq_false_iff_ne.2 (by omega)
    obtain ⟨x, hx, hxx⟩ := at_cut a (n := la.length) (by have := H16.out rfl; omega)
    have hxc : x ≤ ca := by have := HRa.out.1.1; omega
    go_wp2_with fail
    have hlx : (la.take x).length = x := by rw [List.length_take]; omega
    have hDC : Calls Try.prog 16 #[.slice Ea x ca] w4 fun e w' => ∃ T q2 d2 q3 d3 q4 d4, e = .returned (.tuple #[TV T q2 d2 q3 d3 q4 d4, .int .i64 2]) ∧ Below w4.heap.size w4 w' := by
      have h := Decode_tr Ea ca (la.take x) w4 (take_C HRa.out.1.2 x (by omega) |> (by rw [hlx]; exact ·)) (by omega) (fun y hy => HRa.out.2 y (List.mem_of_mem_take hy)) (by have := HLA.out; omega)
      rw [hlx, HCUT.out trivial x hx] at h
      refine h.mono ?_
      rintro e w' ⟨q2, d2, q3, d3, q4, d4, rfl, -, -, hb⟩
      exact ⟨_, q2, d2, q3, d3, q4, d4, rfl, hb⟩
    refine hDC.mono ?_
    rintro e_ w5 ⟨T, q2, d2, q3, d3, q4, d4, rfl, hb5⟩
    have hb6 := below_alloc (Below.refl w5.heap.size w5) (bx T q2 d2 q3 d3 q4 d4)
    have HD6 := Aside0.mk (And.intro ((HD4.out.step hb5).step hb6) (Kd.C_below (Kd.C_below HRa.out.1.2 hb5) hb6))
    clear hb5 hDC hb6 HD4 hl16 hl0 hxx
    go_upto_region 9 with fail
    generalize (w5.alloc (bx T q2 d2 q3 d3 q4 d4)) = w6 at *
    have HB := Aside0.mk (Below.refl w6.heap.size w6)
    have HLC : Aside0 ((la ++ [0]).length < 140737488355328) := ⟨by have := HLA.out; simp; omega⟩
    have HLD : Aside0 (la.length < 140737488355328) := ⟨by have := HLA.out; omega⟩
    go_wp2_with (first | ((with_reducible refine gate_dst (N := 36) rfl ?_); refine Kd.R_lit (Kd.int .u8) _ 5 ?hg (N := 36) ?hd (xs := ([] : List Int)) (inner := []) (ok := fun _ => True) (okp := fun _ => True) ?hr ?hp (fun _ hk => hk) trivial (Below.refl _ _) (Nat.le_refl _) (by simp) ?_; (case hd => rfl); (case hg => rfl); (case hr => first | (go_simp; done) | (go_simp; rfl)); (case hp => exact (Reps.none _ _)); intro v123 w8 ho9 hb hg_ hnew_; clear hg_ hnew_; have n0_ := Aside0.mk (Kd.R_lower ho9 (below_size HB.out)); have n1_ := Aside0.mk (below_step HB.out hb); clear HB; have HO124 := n0_; have HB := n1_; clear n0_ n1_; clear hb ho9) | ((with_reducible refine gate_builtin (b := .append) (xs := #[.tmp 36, .tmp 37]) rfl ?_); at_builtin; refine Kd.R_append_rows (Kd.int .u8) (w0 := w6) w6.heap.size rfl (.tmp 36) (.tmp 37) 22 5 (.int .u8 0) 1 rfl Try.underlying22 info5 rfl (by decide) (by omega) v123 [] la _ _ _ (fun _ => True) (fun _ => False) rfl rfl ?aO ?aR (fun _ _ h => h) (fun _ h => h.elim) ?aF ?aB ?aS ?aL ?_; (case aR => exact (Kd.C_below HD6.out.2 HB.out)); (case aB => exact HB.out); (case aF => exact (fun _ _ => trivial)); (case aO => exact HO124.out); (case aS => exact (below_size HB.out)); (case aL => have := HLD.out; simp only [List.length_nil]; omega); intro v126 w10 ho hb hg hat; rw [List.nil_append] at ho; have n0_ := Aside0.mk (hb); have n1_ := Aside0.mk (ho); clear HB; clear HO124; have HB := n0_; have HO127 := n1_; clear n0_ n1_; clear ho hb hg hat) | ((with_reducible refine gate_builtin (b := .append) (xs := #[.tmp 38, .tmp 39]) rfl ?_); at_builtin; refine Kd.R_append (Kd.int .u8) (w0 := w6) w6.heap.size rfl (.tmp 38) (.tmp 39) 22 5 (.int .u8 0) 1 rfl Try.underlying22 info5 rfl (by decide) (by omega) v126 la 0 [.int .u8 0] (fun _ => True) (fun _ => False) rfl rfl ?aP (fun _ hk => hk.elim) ?aF ?aO ?aB ?aS ?aL ?_; (case aP => exact rfl); (case aB => (with_reducible first | exact HB.out | exact below_alloc HB.out _)); (case aF => exact (fun _ _ => trivial)); (case aO => (with_reducible repeat (first | apply Kd.R_alloc | apply Kd.R_drewN | apply Kd.R_drew)); exact HO127.out); (case aS => (with_reducible first | exact below_size HB.out | exact below_size (below_alloc HB.out _))); (case aL => have := HLD.out; omega); intro v129 w11 ho hb hg hat; have n0_ := Aside0.mk (hb); have n1_ := Aside0.mk (ho); clear HB; clear HO127; have HB := n0_; have HO130 := n1_; clear n0_ n1_; clear ho hb hg hat))
    obtain ⟨Ao, co, rfl⟩ := Kd.R_slice HO130.out
    have hdl : (la ++ [0]).length ≤ 1073741824 := by have := HLA.out; rw [List.length_append, List.length_singleton]; omega
    have h8 : B8 (la ++ [0]) := HRa.out.2.append (fun y hy => by simp at hy; subst hy; decide)
    refine (Decode_tr Ao co (la ++ [0]) _ (Kd.R_reads' HO130.out).2.2 (Kd.R_reads' HO130.out).2.1 h8 hdl).mono ?_
    rintro e_ w12 ⟨r2, e2, r3, e3, r4, e4, rfl, -, -, hb12⟩
    rw [HMORE.out trivial 0]
    obtain ⟨U, hU⟩ : ∃ q, (readS (la ++ [0]) true).1 = q := ⟨_, rfl⟩
    rw [hU]
    have HB12 := Aside0.mk (below_then HB.out HB.out.size hb12)
    clear hb12 hdl h8 hU HO130
    go_wp2_with fail
    refine (known_any _).mono ?_
    rintro e w13 ⟨rfl, hb13⟩
    have HD13 := Aside0.mk (HD6.out.1.step (below_then (below_alloc HB12.out _) (below_size (below_alloc HB12.out _)) hb13))
    clear hb13
    go_wp2_with fail
    exact bodyPost_ret (v := .bool true) (by simp [results, Try.results7, go_sem]) rfl ⟨rfl, HD13.out.lo⟩
  · have hb0 : (ea != 0) = true := by simpa using h0
    go_wp2_with fail
    refine (known_any w4).mono ?_
    rintro e_ w10 ⟨rfl, hb10⟩
    have HD10 := Aside0.mk (HD4.out.step hb10)
    clear hb10
    go_wp2_with fail
    exact bodyPost_ret (v := .bool true) (by simp [results, Try.results7, go_sem]) rfl ⟨rfl, HD10.out.lo⟩
theorem NarCuts_row (N : Nat) (t : S26) (A2 : Option Addr) (c2 : Nat) (A3 : Option Addr) (c3 : Nat) (A4 : Option Addr) (c4 : Nat) (a : Int) (w : World) (h : TR w t A2 c2 A3 c3 A4 c4) (hG : GT N t) (ha : (Lit.int .i64 a).wf = true) :
    Calls Try.prog 7 #[TV t A2 c2 A3 c3 A4 c4, .int .i64 a] w fun e w' => e = .returned (.bool true) ∧ Below w.heap.size w w' := NarCuts_any N t A2 c2 A3 c3 A4 c4 a w h hG
end Go.Proofs.Ythhajkmeadapgaa.Tree
