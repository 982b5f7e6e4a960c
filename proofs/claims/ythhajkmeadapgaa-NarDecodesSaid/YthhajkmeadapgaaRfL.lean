/- For any bytes b (no condition): NarDecodes(b) hands back true. Own work. -/
import Derived.Test.YthhajkmeadapgaaRfJ
import Derived.Test.YthhajkmeadapgaaDcR
import Derived.Test.YthhajkmeadapgaaSame
namespace Go.Proofs.Ythhajkmeadapgaa.Tree
set_option linter.unusedVariables false
set_option linter.unusedSimpArgs false
open Go.RowKit Go.Proofs.Ythhajkmeadapgaa.PL Go.Proofs.Ythhajkmeadapgaa.Mn Go.Proofs.YthhajkmeadapgaaW.PrintWords Go.Proofs.YthhajkmeadapgaaW.PrintLast Go.Proofs.YthhajkmeadapgaaW.PrintMore
set_option maxRecDepth 20000 in
set_option maxHeartbeats 2000000 in
/-- spoil writes bytes of its own over -/
theorem spoil_any (w0 w : World) (v : Value) (xs : List Int) (hB : Below w0.heap.size w0 w) (hR : (Kd.int .u8).R 5 w w0.heap.size (fun _ => True) v xs) (hl : xs.length < 140737488355328) :
    Calls Try.prog 18 #[v] w fun e w' => e = .returned (.tuple #[]) ∧ Below w0.heap.size w0 w' := by
  have HO127 := Aside0.mk hR
  have HW := Aside0.mk hB
  have HLD : Aside0 (xs.length < 140737488355328) := ⟨by omega⟩
  have HLX : Aside0 ((xs ++ [99]).length ≤ 140737488355328 ∧ 0 < (xs ++ [99]).length) := ⟨by rw [List.length_append, List.length_singleton]; omega⟩
  clear hR hB
  go_enter Try.func18, Try.ntmps18
  go_upto_region 2 with (first | ((with_reducible refine gate_builtin (b := .append) (xs := #[.tmp 4, .tmp 5]) rfl ?_); at_builtin; refine Kd.R_append (Kd.int .u8) (w0 := w0) w0.heap.size rfl (.tmp 4) (.tmp 5) 22 5 (.int .u8 0) 1 rfl Try.underlying22 info5 rfl (by decide) (by omega) v xs 99 [.int .u8 99] (fun _ => True) (fun _ => False) rfl rfl ?aP (fun _ hk => hk.elim) ?aF ?aO ?aB ?aS ?aL ?_; (case aP => exact rfl); (case aB => (with_reducible first | exact HW.out | exact below_alloc HW.out _)); (case aF => exact (fun _ _ => trivial)); (case aO => (with_reducible repeat (first | apply Kd.R_alloc | apply Kd.R_drewN | apply Kd.R_drew)); exact HO127.out); (case aS => (with_reducible first | exact below_size HW.out | exact below_size (below_alloc HW.out _))); (case aL => have := HLD.out; omega); intro v129 w11 ho hb hg hat; have n0_ := Aside0.mk (hb); have n1_ := Aside0.mk (ho); clear HW; clear HO127; have HW := n0_; have HO130 := n1_; clear n0_ n1_; clear ho hb hg hat))
  obtain ⟨ys, hys⟩ : ∃ q, xs ++ [99] = q := ⟨_, rfl⟩
  rw [hys] at HO130 HLX
  clear hys
  obtain ⟨go, co, rfl, hgo, -, -⟩ := Kd.R_form HO130.out HLX.out.2
  obtain ⟨m, hm⟩ : ∃ q, ys.length = q := ⟨_, rfl⟩
  rw [hm] at HLX HO130 ⊢
  have HM := Aside0.mk hm
  clear hm
  have HGO := Aside0.mk hgo
  have hmx := HLX.out.1
  clear hgo
  go_loopw [3] (fun v3 wr => ∃ (k : Nat) (zs : List Int), v3 = .int .i64 (k : Int) ∧ k ≤ m ∧ Aside0 (zs.length = m ∧ (Kd.int .u8).R 5 wr w0.heap.size (fun _ => True) (.slice (some ⟨go, 0, none⟩) m co) zs ∧ Below w0.heap.size w0 wr)) (fun v _ => m - (intOf v).toNat)
  case atStart => exact ⟨0, ys, rfl, Nat.zero_le _, ⟨HM.out, HO130.out, HW.out⟩⟩
  case round =>
    obtain ⟨k, zs, rfl, hk, HZ⟩ := hrel
    by_cases hlt : k < m
    · have hlt1 : (k : Int) < (m : Int) := by omega
      have hlt0 : (0 : Int) ≤ (k : Int) := by omega
      obtain ⟨hc, hf⟩ := Kd.R_celln 0 HZ.out.2.1 (k : Int) hlt0 hlt1
      have HP := Aside0.mk (Kd.R_putn HZ.out.2.1 (k : Int) (98 : Int))
      rw [Int.toNat_natCast] at hc hf HP
      go_wp2_with fail
      refine ⟨⟨k + 1, zs.set k 98, by go_num, by omega, ⟨by rw [List.length_set]; exact HZ.out.1, HP.out, below_set HZ.out.2.2 HGO.out⟩⟩, by simp [intOf]; omega⟩
    · have hkk : k = m := by omega
      subst hkk
      go_wp2_with fail
      exact bodyPost_end (v := .tuple #[]) (by simp [results, Try.results18, go_sem]) rfl ⟨rfl, HZ.out.2.2⟩
set_option maxRecDepth 20000 in
set_option maxHeartbeats 4000000 in
theorem NarDecodes_any (A : Option Addr) (c : Nat) (b : List Int) (w : World) (hC : (Kd.int .u8).C w A b.length b) (hc : b.length ≤ c) (h8 : B8 b) :
    Calls Try.prog 4 #[.slice A b.length c] w fun e w' => e = .returned (.bool true) ∧ Below w.heap.size w w' := by
  have HB := Aside0.mk (And.intro hC (And.intro hc h8))
  clear hC hc h8
  go_enter Try.func4, Try.ntmps4
  by_cases hlen : 20000 < b.length
  · have hl1 : decide ((b.length : Int) > 20000) = true := by simp; omega
    go_wp2_with fail
    exact bodyPost_ret (v := .bool true) (by simp [results, Try.results4, go_sem]) rfl ⟨rfl, Below.refl _ _⟩
  have hl1 : decide ((b.length : Int) > 20000) = false := by simp; omega
  have HLEN := Aside0.mk hlen
  clear hlen
  go_wp2_with fail
  refine (pantrylaw5_roomy.calls A c b (b ++ [171]) w HB.out.1 HB.out.2.1 (Pure.roomy_f b (by have := HLEN.out; omega))).mono ?_
  rintro e_ w2 ⟨v, rfl, hR2, hb2⟩
  obtain ⟨Ar, cr, rfl⟩ := Kd.R_slice hR2
  obtain ⟨-, hcr, hCr⟩ := Kd.R_reads' hR2
  have hl171 : (b ++ [171]).length = b.length + 1 := by simp
  have HCR := Aside0.mk (And.intro hCr hcr)
  have HB2 := Aside0.mk hb2
  have HTK : Aside0 ((Kd.int .u8).C w2 Ar b.length b) := ⟨by
    have h := take_C hCr b.length (by omega)
    have e : (b ++ [171]).take b.length = b := by rw [List.take_append_of_le_length (Nat.le_refl _), List.take_length]
    rw [e] at h
    exact h⟩
  have hcr2 : b.length ≤ cr := by omega
  clear hR2 hCr hb2 hcr hl1
  go_wp2_with fail
  refine (Decode_any Ar cr b w2 HTK.out hcr2 HB.out.2.2 (by have := HLEN.out; omega)).mono ?_
  rintro e_ w3 ⟨cs, rfl, hM, hG, hb3⟩
  obtain ⟨⟨t, tn, tk⟩, hT⟩ : ∃ T, readS b true = T := ⟨_, rfl⟩
  rw [hT] at hM hG ⊢
  simp only at hM hG ⊢
  obtain ⟨v2, v3, v4, hcs, hK2, hK3, hK4⟩ := k26_openM hM
  obtain ⟨q2, d2, rfl⟩ := Kd.R_slice hK2
  obtain ⟨q3, d3, rfl⟩ := Kd.R_slice hK3
  obtain ⟨q4, d4, rfl⟩ := Kd.R_slice hK4
  obtain ⟨cs, rfl⟩ : ∃ l : List Value, cs = l.toArray := ⟨cs.toList, by simp⟩
  simp only [List.toList_toArray] at hcs hM
  subst hcs
  have hTR : TR w3 t q2 d2 q3 d3 q4 d4 := ⟨(Kd.R_reads' hK2).2.1, (Kd.R_reads' hK2).2.2, (Kd.R_reads' hK3).2.1, (Kd.R_reads' hK3).2.2, (Kd.R_reads' hK4).2.1, (Kd.R_reads' hK4).2.2⟩
  have hb4 := below_alloc (Below.refl w3.heap.size w3) (bx t q2 d2 q3 d3 q4 d4)
  have HN4 := Aside0.mk (heap_alloc_new w3 (bx t q2 d2 q3 d3 q4 d4))
  have HT4 := Aside0.mk (hTR.below hb4)
  have HK4 := Aside0.mk (Kd.R_below hK2 hb4)
  have HB4 := Aside0.mk (below_then hb3 hb3.size hb4)
  have HG4 := Aside0.mk hG
  clear hM hG hb3 hb4 hK2 hK3 hK4 hTR
  go_upto_region 5 with fail
  generalize (w3.alloc (bx t q2 d2 q3 d3 q4 d4)) = w4 at *
  obtain ⟨p4, hp4⟩ : ∃ x, w3.heap.size = x := ⟨_, rfl⟩
  rw [hp4] at HN4 ⊢
  clear hp4
  have HCb : Aside0 ((Kd.int .u8).C w2 A b.length b) := ⟨Kd.C_below HB.out.1 HB2.out⟩
  go_wp2_with fail
  refine (RDecode_any A c b w4 (Kd.C_below HCb.out HB4.out) HB.out.2.1 HB.out.2.2 (by have := HLEN.out; omega)).mono ?_
  rintro e_ w5 ⟨cs, rfl, hM, hG, hb5⟩
  rw [hT] at hM hG ⊢
  simp only at hM hG ⊢
  obtain ⟨r2, e2, r3, e3, r4, e4, hcs, hTR⟩ := k26_open (hM w5 (fun _ _ => rfl))
  obtain ⟨cs, rfl⟩ : ∃ l : List Value, cs = l.toArray := ⟨cs.toList, by simp⟩
  simp only [List.toList_toArray] at hcs hM
  subst hcs
  have hTR : TR w5 t r2 e2 r3 e3 r4 e4 := hTR
  have hb6 := below_alloc (Below.refl w5.heap.size w5) (bx t r2 e2 r3 e3 r4 e4)
  have HN6 := Aside0.mk (heap_alloc_new w5 (bx t r2 e2 r3 e3 r4 e4))
  have HT6 := Aside0.mk (hTR.below hb6)
  have hb46 := below_then hb5 hb5.size hb6
  have HNa := Aside0.mk ((hb46.block _ (blk_lt HN4.out)).trans HN4.out)
  have HTa := Aside0.mk (HT4.out.below hb46)
  have HKa := Aside0.mk (Kd.R_below HK4.out hb46)
  have HB6 := Aside0.mk (below_then HB4.out HB4.out.size hb46)
  clear hM hG hb5 hb6 hb46 hTR HN4 HT4 HK4 HB4
  go_upto_region 6 with fail
  generalize (w5.alloc (bx t r2 e2 r3 e3 r4 e4)) = w6 at *
  obtain ⟨p6, hp6⟩ : ∃ x, w5.heap.size = x := ⟨_, rfl⟩
  rw [hp6] at HN6 ⊢
  clear hp6 hT
  obtain ⟨x0, x1, x2, x3, x4⟩ := cells5 HNa.out
  obtain ⟨y0, y1, y2, y3, y4⟩ := cells5 HN6.out
  have hn2 : (tk != tk) = false := by simp
  go_wp2_with fail
  refine (Equal_any 65 65 t t q2 d2 q3 d3 q4 d4 r2 e2 r3 e3 r4 e4 w6 HTa.out HT6.out HG4.out HG4.out).mono ?_
  rintro e w7 ⟨he, hb7⟩
  rw [eqT_true rfl] at he
  subst he
  have HN7 := Aside0.mk ((hb7.block _ (blk_lt HNa.out)).trans HNa.out)
  have HK7 := Aside0.mk (Kd.R_below HKa.out hb7)
  have HB7 := Aside0.mk (below_then HB6.out HB6.out.size hb7)
  clear hb7 x0 x1 x2 x3 x4 y0 y1 y2 y3 y4 HNa HTa HKa HB6 HN6 HT6
  obtain ⟨x0, x1, x2, x3, x4⟩ := cells5 HN7.out
  have hml : t.f2.length < 140737488355328 := by have := HG4.out.2.1.2.1; omega
  go_wp2_with fail
  refine (spoil_any w2 w7 _ t.f2 HB7.out HK7.out hml).mono ?_
  rintro e_ w8 ⟨rfl, hb8⟩
  have HB8 := Aside0.mk hb8
  clear hb8 x0 x1 x2 x3 x4 HN7 HK7 HB7 hn2
  obtain ⟨K, hK⟩ := Pure.stands_ev b (by have := HLEN.out; omega)
  have HS := Aside0.mk (pantrylaw5_stands.calls K Ar cr (b ++ [171]) A c b true w8 (Kd.C_below HCR.out.1 HB8.out) HCR.out.2 (Kd.C_below HCb.out HB8.out) HB.out.2.1 (hK K (Nat.le_refl _)))
  rw [hl171] at HS
  clear hl171
  clear hK
  go_wp2_with fail
  refine HS.out.mono ?_
  rintro e_ w9 ⟨rfl, hd9⟩
  have HB9 := Aside0.mk (below_then HB8.out HB8.out.size (Drawn0.below hd9))
  clear hd9
  go_wp2_with fail
  refine (known_any w9).mono ?_
  rintro e_ w10 ⟨rfl, hb10⟩
  have HBx := Aside0.mk (below_then HB2.out HB2.out.size (below_then HB9.out HB9.out.size hb10))
  clear hb10
  go_wp2_with fail
  exact bodyPost_ret (v := .bool true) (by simp [results, Try.results4, go_sem]) rfl ⟨rfl, HBx.out⟩
theorem NarDecodes_row (A : Option Addr) (c : Nat) (b : List Int) (w : World)
    (hC : (Kd.int .u8).C w A b.length b) (hc : b.length ≤ c) (hm : b.length ≤ maxLen) (hb : b.length * 1 ≤ 140737488351232) (hw : ∀ x ∈ b, (Lit.int .u8 x).wf = true) :
    Calls Try.prog 4 #[.slice A b.length c] w fun e w' => e = .returned (.bool true) ∧ Below w.heap.size w w' := NarDecodes_any A c b w hC hc (B8.of_wf hw)
end Go.Proofs.Ythhajkmeadapgaa.Tree
