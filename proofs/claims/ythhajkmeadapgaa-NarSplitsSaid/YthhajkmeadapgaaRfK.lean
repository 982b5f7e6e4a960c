/- For any tree t and any bytes b (no condition): NarSplits(t, b) hands back true. Own work. -/
import Derived.Test.YthhajkmeadapgaaRfJ
import Derived.Test.YthhajkmeadapgaaDcR
namespace Go.Proofs.Ythhajkmeadapgaa.Tree
set_option linter.unusedVariables false
set_option linter.unusedSimpArgs false
open Go.RowKit Go.Proofs.Ythhajkmeadapgaa.PL Go.Proofs.Ythhajkmeadapgaa.Mn Go.Proofs.YthhajkmeadapgaaW.PrintWords Go.Proofs.YthhajkmeadapgaaW.PrintLast Go.Proofs.YthhajkmeadapgaaW.PrintMore
theorem readS_split {N : Nat} {t : S26} (hG : GT N t) (hc : (chk N t 1 0).1 = 0) (r : List Int) : (readS (encB N t ++ r) false).2.1 = (encB N t).length ∧ (readS (encB N t ++ r) false).2.2 = 0 := by
  have h := readS_all (r := r) (last := false) hG hc (fun h => by cases h)
  have e : encB N t = tx sMagic ++ nodeB N t := by unfold encB allB; rw [if_pos hc]
  rw [e, List.append_assoc, h]
  exact ⟨rfl, rfl⟩
set_option maxRecDepth 20000 in
set_option maxHeartbeats 4000000 in
theorem NarSplits_any (N : Nat) (t : S26) (A2 : Option Addr) (c2 : Nat) (A3 : Option Addr) (c3 : Nat) (A4 : Option Addr) (c4 : Nat) (A : Option Addr) (c : Nat) (b : List Int) (w : World) (h : TR w t A2 c2 A3 c3 A4 c4) (hG : GT N t) (hC : (Kd.int .u8).C w A b.length b) (hc : b.length ≤ c) (h8 : B8 b) (hbl : b.length ≤ maxLen) :
    Calls Try.prog 6 #[TV t A2 c2 A3 c3 A4 c4, .slice A b.length c] w fun e w' => e = .returned (.bool true) ∧ Below w.heap.size w w' := by
  have HT := Aside0.mk h
  have HG := Aside0.mk hG
  have HB := Aside0.mk (And.intro hc (And.intro h8 hbl))
  have HD : Aside0 (Bk w (w.alloc (bx t A2 c2 A3 c3 A4 c4)) w.heap.size (bx t A2 c2 A3 c3 A4 c4) A b) := ⟨⟨heap_alloc_new w _, below_alloc (Below.refl _ w) _, Kd.C_below hC (below_alloc (Below.refl _ w) _)⟩⟩
  clear h hG hC hc h8 hbl
  go_enter Try.func6, Try.ntmps6
  go_upto_region 1 with fail
  obtain ⟨w1, hw1⟩ : ∃ x, (w.alloc (bx t A2 c2 A3 c3 A4 c4)) = x := ⟨_, rfl⟩
  rw [hw1] at HD ⊢
  obtain ⟨p, hp⟩ : ∃ x, w.heap.size = x := ⟨_, rfl⟩
  rw [hp] at HD ⊢
  have HP : Aside0 (w.heap.size = p) := ⟨hp⟩
  clear hw1 hp
  obtain ⟨x0, x1, x2, x3, x4⟩ := cells5 HD.out.hp
  go_wp2_with fail
  refine (heavy_any N t A2 c2 A3 c3 A4 c4 w1 (HT.out.below HD.out.lo) HG.out).mono ?_
  rintro e_ w2 ⟨r, rfl, hb2, hr⟩
  have HD2 := Aside0.mk (HD.out.step hb2)
  have HR := Aside0.mk hr
  clear hb2 hr HD x0 x1 x2 x3 x4
  cases r with
  | true =>
    go_wp2_with fail
    exact bodyPost_ret (v := .bool true) (by simp [results, Try.results6, go_sem]) rfl ⟨rfl, HD2.out.lo⟩
  | false =>
  have HL := Aside0.mk (all_le HG.out (HR.out (by first | rfl | trivial)))
  clear HR
  by_cases hlen : 20000 < b.length
  · have hl1 : decide ((b.length : Int) > 20000) = true := by simp; omega
    go_wp2_with fail
    exact bodyPost_ret (v := .bool true) (by simp [results, Try.results6, go_sem]) rfl ⟨rfl, HD2.out.lo⟩
  have hl1 : decide ((b.length : Int) > 20000) = false := by simp; omega
  have HLEN := Aside0.mk hlen
  clear hlen
  obtain ⟨T, hT⟩ : ∃ x, readS b false = x := ⟨_, rfl⟩
  go_wp2_with fail
  refine (Split_any A c b w2 HD2.out.c HB.out.1 HB.out.2.1 (by have := HLEN.out; omega)).mono ?_
  rintro e_ w3 ⟨rfl, hb3⟩
  have HD3 := Aside0.mk (HD2.out.step hb3)
  rw [hT]
  clear hb3 HD2 hl1
  go_wp2_with fail
  refine (RSplit_any A c b w3 HD3.out.c HB.out.1 HB.out.2.1 (by have := HLEN.out; omega)).mono ?_
  rintro e_ w4 ⟨rfl, hb4⟩
  have HD4 := Aside0.mk (HD3.out.step hb4)
  rw [hT]
  obtain ⟨tt, tn, tk⟩ := T
  clear hb4 HD3 hT
  simp only
  have hn1 : ((tn : Int) != (tn : Int)) = false := by simp
  have hn2 : (tk != tk) = false := by simp
  obtain ⟨x0, x1, x2, x3, x4⟩ := cells5 HD4.out.hp
  go_wp2_with fail
  refine (Encode_any N t A2 c2 A3 c3 A4 c4 w4 (HT.out.below HD4.out.lo) HG.out (by have := HL.out; omega)).mono ?_
  rintro e_ w5 ⟨Ea, ca, rfl, hR5, hb5⟩
  have HD5 := Aside0.mk (HD4.out.step hb5)
  have HRa := Aside0.mk (And.intro (Kd.R_reads' hR5).2 (encB_B8 N t))
  clear hR5 hb5 HD4 x0 x1 x2 x3 x4 hn1 hn2
  have HSP := Aside0.mk (fun hc r => readS_split (N := N) (t := t) HG.out hc r)
  have HLA : Aside0 ((encB N t).length ≤ 1000000) := ⟨by unfold encB; split; exact HL.out; exact Nat.zero_le _⟩
  obtain ⟨ea, hea⟩ : ∃ x, (chk N t 1 0).1 = x := ⟨_, rfl⟩
  obtain ⟨la, hla⟩ : ∃ x, encB N t = x := ⟨_, rfl⟩
  rw [hea, hla]
  rw [hla] at HRa HLA
  rw [hea, hla] at HSP
  clear hea hla
  by_cases h0 : ea = 0
  · subst h0
    have HLB : Aside0 ((la ++ b).length < 140737488355328) := ⟨by have := HLA.out; have := HLEN.out; rw [List.length_append]; omega⟩
    have HLD : Aside0 (la.length < 140737488355328) := ⟨by have := HLA.out; omega⟩
    have HW := Aside0.mk (Below.refl w5.heap.size w5)
    go_wp2_with (first | ((with_reducible refine gate_dst (N := 48) rfl ?_); refine Kd.R_lit (Kd.int .u8) _ 5 ?hg (N := 48) ?hd (xs := ([] : List Int)) (inner := []) (ok := fun _ => True) (okp := fun _ => True) ?hr ?hp (fun _ hk => hk) trivial (Below.refl _ _) (Nat.le_refl _) (by simp) ?_; (case hd => rfl); (case hg => rfl); (case hr => first | (go_simp; done) | (go_simp; rfl)); (case hp => exact (Reps.none _ _)); intro v123 w8 ho9 hb hg_ hnew_; clear hg_ hnew_; have n0_ := Aside0.mk (Kd.R_lower ho9 (below_size HW.out)); have n1_ := Aside0.mk (below_step HW.out hb); clear HW; have HO124 := n0_; have HW := n1_; clear n0_ n1_; clear hb ho9) | ((with_reducible refine gate_builtin (b := .append) (xs := #[.tmp 48, .tmp 49]) rfl ?_); at_builtin; refine Kd.R_append_rows (Kd.int .u8) (w0 := w5) w5.heap.size rfl (.tmp 48) (.tmp 49) 22 5 (.int .u8 0) 1 rfl Try.underlying22 info5 rfl (by decide) (by omega) v123 [] la _ _ _ (fun _ => True) (fun _ => False) rfl rfl ?aO ?aR (fun _ _ h => h) (fun _ h => h.elim) ?aF ?aB ?aS ?aL ?_; (case aR => exact (Kd.C_below HRa.out.1.2 HW.out)); (case aB => exact HW.out); (case aF => exact (fun _ _ => trivial)); (case aO => exact HO124.out); (case aS => exact (below_size HW.out)); (case aL => have := HLD.out; simp only [List.length_nil]; omega); intro v126 w10 ho hb hg hat; rw [List.nil_append] at ho; have n0_ := Aside0.mk (hb); have n1_ := Aside0.mk (ho); clear HW; clear HO124; have HW := n0_; have HO127 := n1_; clear n0_ n1_; clear ho hb hg hat) | ((with_reducible refine gate_builtin (b := .append) (xs := #[.tmp 50, .tmp 51]) rfl ?_); at_builtin; refine Kd.R_append_rows (Kd.int .u8) (w0 := w5) w5.heap.size rfl (.tmp 50) (.tmp 51) 22 5 (.int .u8 0) 1 rfl Try.underlying22 info5 rfl (by decide) (by omega) v126 la b _ _ _ (fun _ => True) (fun _ => False) rfl rfl ?aO ?aR (fun _ _ h => h) (fun _ h => h.elim) ?aF ?aB ?aS ?aL ?_; (case aR => exact (Kd.C_below HD5.out.c HW.out)); (case aB => exact HW.out); (case aF => exact (fun _ _ => trivial)); (case aO => exact HO127.out); (case aS => exact (below_size HW.out)); (case aL => have := HLB.out; rw [List.length_append] at this; omega); intro v129 w11 ho hb hg hat; have n0_ := Aside0.mk (hb); have n1_ := Aside0.mk (ho); clear HW; clear HO127; have HW := n0_; have HO130 := n1_; clear n0_ n1_; clear ho hb hg hat))
    obtain ⟨Ao, co, rfl⟩ := Kd.R_slice HO130.out
    have hdl : (la ++ b).length ≤ 1073741824 := by have := HLA.out; have := HLEN.out; rw [List.length_append]; omega
    have h8 : B8 (la ++ b) := HRa.out.2.append HB.out.2.1
    refine (Split_any Ao co (la ++ b) _ (Kd.R_reads' HO130.out).2.2 (Kd.R_reads' HO130.out).2.1 h8 hdl).mono ?_
    rintro e_ w12 ⟨rfl, hb12⟩
    rw [(HSP.out trivial b).1, (HSP.out trivial b).2]
    have HB12 := Aside0.mk (below_then HW.out HW.out.size hb12)
    have hl9 : ((la.length : Int) == (la.length : Int)) = true := by simp
    clear hb12 hdl h8 HO130
    go_wp2_with fail
    refine (known_any _).mono ?_
    rintro e w13 ⟨rfl, hb13⟩
    have HD13 := Aside0.mk (HD5.out.step (below_then HB12.out HB12.out.size hb13))
    clear hb13
    go_wp2_with fail
    exact bodyPost_ret (v := .bool true) (by simp [results, Try.results6, go_sem]) rfl ⟨rfl, HD13.out.lo⟩
  · have hb0 : (ea != 0) = true := by simpa using h0
    go_wp2_with fail
    refine (known_any w5).mono ?_
    rintro e_ w10 ⟨rfl, hb10⟩
    have HD10 := Aside0.mk (HD5.out.step hb10)
    clear hb10
    go_wp2_with fail
    exact bodyPost_ret (v := .bool true) (by simp [results, Try.results6, go_sem]) rfl ⟨rfl, HD10.out.lo⟩
theorem NarSplits_row (N : Nat) (t : S26) (A2 : Option Addr) (c2 : Nat) (A3 : Option Addr) (c3 : Nat) (A4 : Option Addr) (c4 : Nat) (A : Option Addr) (c : Nat) (b : List Int) (w : World) (h : TR w t A2 c2 A3 c3 A4 c4) (hG : GT N t)
    (hC : (Kd.int .u8).C w A b.length b) (hc : b.length ≤ c) (hm : b.length ≤ maxLen) (hb : b.length * 1 ≤ 140737488351232) (hw : ∀ x ∈ b, (Lit.int .u8 x).wf = true) :
    Calls Try.prog 6 #[TV t A2 c2 A3 c3 A4 c4, .slice A b.length c] w fun e w' => e = .returned (.bool true) ∧ Below w.heap.size w w' := NarSplits_any N t A2 c2 A3 c3 A4 c4 A c b w h hG hC hc (B8.of_wf hw) hm
end Go.Proofs.Ythhajkmeadapgaa.Tree
