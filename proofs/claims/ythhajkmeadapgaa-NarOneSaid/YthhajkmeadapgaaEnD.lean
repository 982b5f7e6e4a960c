/- nar: node, walked. Own work. -/
import Derived.Test.YthhajkmeadapgaaEnC
namespace Go.Proofs.Ythhajkmeadapgaa.Tree
set_option linter.unusedVariables false
set_option linter.unusedSimpArgs false
open Go.RowKit Go.Proofs.Ythhajkmeadapgaa.PL Go.Proofs.Ythhajkmeadapgaa.Mn Go.Proofs.YthhajkmeadapgaaW.PrintWords Go.Proofs.YthhajkmeadapgaaW.PrintLast Go.Proofs.YthhajkmeadapgaaW.PrintMore
/-- node's contract for trees of at most so many floors -/
def NK (F : Nat) (cap : Value) (I : (Nat → Prop) → List Int → World → Prop) (w0 : World) (N : Nat) : Prop := ∀ (t : S26) (A2 : Option Addr) (c2 : Nat) (A3 : Option Addr) (c3 : Nat) (A4 : Option Addr) (c4 : Nat) (S : Nat → Prop) (l : List Int) (w : World),
  TR w0 t A2 c2 A3 c3 A4 c4 → GT N t → Okt N t → I S l w → Below w0.heap.size w0 w → (∀ i, S i → w0.heap.size ≤ i) → l.length + (nodeB N t).length ≤ 140737488355328 →
  Calls Try.prog 45 #[.func (.func F) #[] #[cap], TV t A2 c2 A3 c3 A4 c4] w (Put I S (l ++ nodeB N t) w)
set_option maxRecDepth 20000 in
set_option maxHeartbeats 2000000 in
theorem node_step {F : Nat} {cap : Value} {I : (Nat → Prop) → List Int → World → Prop} (hP : Puts F cap I) (w0 : World) (N : Nat) (ih : NK F cap I w0 N) : NK F cap I w0 (N + 1) := by
  intro t A2 c2 A3 c3 A4 c4 S l w h hG hO hI hB hS hl
  have HP := Aside0.mk hP
  have IH := Aside0.mk ih
  clear ih
  obtain ⟨hd1, hd2, hn1, hn2, hk1, hk2⟩ := h
  obtain ⟨hG0, ⟨hG1, hG2, _⟩, ⟨hG3, hG4, hG5⟩, hG6, hG7, hG8⟩ := hG
  obtain ⟨hO1, hO2, hO3⟩ := hO
  have HDT := Aside0.mk hd2
  have HNM := Aside0.mk hn2
  have HKK := Aside0.mk hk2
  have HG5 := Aside0.mk hG5
  have HG8 := Aside0.mk hG8
  have HO1 := Aside0.mk hO1
  have HO3 := Aside0.mk hO3
  have HL := Aside0.mk hl
  have HND : Aside0 (ND F cap I S w0 w w.heap.size (w.heap.size + 1) #[.int .i64 t.f0, .bool t.f1, .slice A2 t.f2.length c2, .slice A3 t.f3.length c3, .slice A4 t.f4.length c4] S l ((w.alloc (.cells #[.func (.func F) #[] #[cap]] 39)).alloc (.cells #[.int .i64 t.f0, .bool t.f1, .slice A2 t.f2.length c2, .slice A3 t.f3.length c3, .slice A4 t.f4.length c4] 26))) := by
    have hb := below_alloc (below_alloc (Below.refl w.heap.size w) (.cells #[.func (.func F) #[] #[cap]] 39)) (.cells #[.int .i64 t.f0, .bool t.f1, .slice A2 t.f2.length c2, .slice A3 t.f3.length c3, .slice A4 t.f4.length c4] 26)
    have hlt := hP.lt _ _ _ hI
    refine ⟨⟨hP.below hI hb, Kb.of_below hb, fun i hi => .inl hi, blk_alloc (heap_alloc_new w _) _, ?_, fun hs => by have := hlt _ hs; omega, fun hs => by have := hlt _ hs; omega, below_weaken hB hB.size hb, hS⟩⟩
    have := heap_alloc_new (w.alloc (.cells #[.func (.func F) #[] #[cap]] 39)) (.cells #[.int .i64 t.f0, .bool t.f1, .slice A2 t.f2.length c2, .slice A3 t.f3.length c3, .slice A4 t.f4.length c4] 26)
    simpa using this
  clear hd2 hn2 hk2 hG5 hG8 hO1 hO2 hO3 hl hI hB hS
  go_enter Try.func45, Try.ntmps45
  go_upto_region 1 with fail
  generalize ((w.alloc (.cells #[.func (.func F) #[] #[cap]] 39)).alloc (.cells #[.int .i64 t.f0, .bool t.f1, .slice A2 t.f2.length c2, .slice A3 t.f3.length c3, .slice A4 t.f4.length c4] 26)) = w1 at *
  generalize w.heap.size + 1 = q at *
  generalize w.heap.size = p at *
  have hw0 : (nodeB (N + 1) t).length = (txs [sL, sType]).length + ((if t.f0 = 1 then txs [sReg] ++ (if t.f1 = true then txs [sExec, sEmpty] else []) ++ txs [sCont, strOfNums t.f2] else if t.f0 = 3 then txs [sSym, sTarget, strOfNums t.f2] else txs [sDir] ++ kidsB (nodeB N) t.f3 t.f4)).length + (txs [sR]).length := by rw [nodeB, List.length_append, List.length_append]
  have HW0 := Aside0.mk hw0
  clear hw0
  go_wp2_with fail
  refine words_lit HP.out HND.out [sL, sType] 9 w1.heap.size 2 2 _ rfl rfl rfl (by decide) (by omega) (by have := HL.out; have := HW0.out; omega) (fun S2 w2 hnd _ => ?_)
  have HND2 := Aside0.mk hnd
  clear hnd HND
  go_upto_region 3 with fail
  have hf := HO1.out
  have hq := HND2.out.hq
  obtain ⟨b0, b1, b2, b3, b4⟩ := cells5 hq
  have hw : (t.f0 = 1 ∧ Aside0 True) ∨ (t.f0 = 3 ∧ Aside0 True) ∨ (t.f0 = 2 ∧ Aside0 (t.f3.length = t.f4.length)) := by
    unfold formE at hf
    by_cases k1 : t.f0 = 1
    · exact .inl ⟨k1, ⟨trivial⟩⟩
    · rw [if_neg k1] at hf
      by_cases k3 : t.f0 = 3
      · exact .inr (.inl ⟨k3, ⟨trivial⟩⟩)
      · rw [if_neg k3] at hf
        by_cases k2 : t.f0 = 2
        · rw [if_pos k2] at hf
          refine .inr (.inr ⟨k2, ⟨?_⟩⟩)
          split at hf
          · cases hf
          · omega
        · rw [if_neg k2] at hf; cases hf
  clear hf hq
  rcases hw with ⟨k1, -⟩ | ⟨k3, -⟩ | ⟨k2, HLN⟩
  · rw [k1] at b0
    rw [if_pos k1] at HW0
    clear b3 b4
    go_wp2_with fail
    refine words_lit HP.out HND2.out [sReg] 9 w2.heap.size 1 1 _ rfl rfl rfl (by decide) (by omega) (by have := HL.out; have := HW0.out; simp only [List.length_append] at *; omega) (fun S3 w3 hnd _ => ?_)
    have HND3 := Aside0.mk hnd
    clear hnd HND2 b0 b1 b2
    obtain ⟨-, b1, b2, -, -⟩ := cells5 HND3.out.hq
    have hcvs : ∀ W, Below w0.heap.size w0 W → (convert 22 9 (.slice A2 t.f2.length c2)).run Try.prog W = .ok (.string (strOfNums t.f2)) W := fun W hW => Kd.C_string Try.underlying22 Try.underlying5 Try.underlying9 (Kd.C_below HDT.out hW)
    have HCV := Aside0.mk hcvs
    have hsz2 : (strOfNums t.f2).size = t.f2.length := by rw [← data_length, strOfNums_data, List.length_map]
    have HSZ2 := Aside0.mk hsz2
    clear hcvs hsz2
    by_cases hx : t.f1 = true
    · rw [hx] at b1
      rw [if_pos hx] at HW0
      go_wp2_with fail
      refine words_lit HP.out HND3.out [sExec, sEmpty] 9 w3.heap.size 2 2 _ rfl rfl rfl (by decide) (by omega) (by have := HL.out; have := HW0.out; simp only [List.length_append] at *; omega) (fun S4 w4 hnd _ => ?_)
      have HND4 := Aside0.mk hnd
      clear hnd HND3 b1 b2
      obtain ⟨-, -, b2, -, -⟩ := cells5 HND4.out.hq
      have hcv := HCV.out w4 HND4.out.b
      obtain ⟨sd, hsd⟩ : ∃ s, strOfNums t.f2 = s := ⟨_, rfl⟩
      rw [hsd] at hcv HSZ2 HW0
      go_wp2_with fail
      refine words_lit HP.out HND4.out [sCont, sd] 9 w4.heap.size 2 2 _ rfl rfl rfl (by intro s hs; simp at hs; rcases hs with rfl | rfl; (· decide); rw [HSZ2.out]; omega) (by omega) (by have := HL.out; have := HW0.out; simp only [List.length_append] at *; omega) (fun S5 w5 hnd _ => ?_)
      have HND5 := Aside0.mk hnd
      clear hnd HND4 b2 hcv
      go_wp2_with fail
      refine words_lit HP.out HND5.out [sR] 9 w5.heap.size 1 1 _ rfl rfl rfl (by decide) (by omega) (by have := HL.out; have := HW0.out; simp only [List.length_append] at *; omega) (fun S9 w9 hnd _ => ?_)
      have HND9 := Aside0.mk hnd
      clear hnd
      have hE : (l ++ txs [sL, sType] ++ txs [sReg] ++ txs [sExec, sEmpty] ++ txs [sCont, sd] ++ txs [sR]) = l ++ nodeB (N + 1) t := by rw [nodeB, if_pos k1, if_pos hx, hsd]; simp only [List.append_assoc, List.nil_append]
      rw [hE] at HND9
      clear hE
      go_wp2_with fail
      exact bodyPost_ret (v := .tuple #[]) (by simp [results, Try.results45, go_sem]) rfl ⟨rfl, S9, HND9.out.i, HND9.out.k, HND9.out.s⟩
    · rw [if_neg hx] at HW0
      have hx' : t.f1 = false := by simpa using hx
      rw [hx'] at b1
      have hcv := HCV.out w3 HND3.out.b
      obtain ⟨sd, hsd⟩ : ∃ s, strOfNums t.f2 = s := ⟨_, rfl⟩
      rw [hsd] at hcv HSZ2 HW0
      go_wp2_with fail
      refine words_lit HP.out HND3.out [sCont, sd] 9 w3.heap.size 2 2 _ rfl rfl rfl (by intro s hs; simp at hs; rcases hs with rfl | rfl; (· decide); rw [HSZ2.out]; omega) (by omega) (by have := HL.out; have := HW0.out; simp only [List.length_append] at *; omega) (fun S5 w5 hnd _ => ?_)
      have HND5 := Aside0.mk hnd
      clear hnd HND3 b1 b2 hcv
      go_wp2_with fail
      refine words_lit HP.out HND5.out [sR] 9 w5.heap.size 1 1 _ rfl rfl rfl (by decide) (by omega) (by have := HL.out; have := HW0.out; simp only [List.length_append] at *; omega) (fun S9 w9 hnd _ => ?_)
      have HND9 := Aside0.mk hnd
      clear hnd
      have hE : (l ++ txs [sL, sType] ++ txs [sReg] ++ txs [sCont, sd] ++ txs [sR]) = l ++ nodeB (N + 1) t := by rw [nodeB, if_pos k1, if_neg hx, hsd]; simp only [List.append_assoc, List.nil_append]
      rw [hE] at HND9
      clear hE
      go_wp2_with fail
      exact bodyPost_ret (v := .tuple #[]) (by simp [results, Try.results45, go_sem]) rfl ⟨rfl, S9, HND9.out.i, HND9.out.k, HND9.out.s⟩
  · rw [k3] at b0
    rw [if_neg (by omega), if_pos k3] at HW0
    have hcvs : ∀ W, Below w0.heap.size w0 W → (convert 22 9 (.slice A2 t.f2.length c2)).run Try.prog W = .ok (.string (strOfNums t.f2)) W := fun W hW => Kd.C_string Try.underlying22 Try.underlying5 Try.underlying9 (Kd.C_below HDT.out hW)
    have hcv := hcvs w2 HND2.out.b
    have hsz2 : (strOfNums t.f2).size = t.f2.length := by rw [← data_length, strOfNums_data, List.length_map]
    have HSZ2 := Aside0.mk hsz2
    clear hcvs hsz2 b1 b3 b4
    obtain ⟨sd, hsd⟩ : ∃ s, strOfNums t.f2 = s := ⟨_, rfl⟩
    rw [hsd] at hcv HSZ2 HW0
    go_wp2_with fail
    refine words_lit HP.out HND2.out [sSym, sTarget, sd] 9 w2.heap.size 3 3 _ rfl rfl rfl (by intro s hs; simp at hs; rcases hs with rfl | rfl | rfl; (· decide); (· decide); rw [HSZ2.out]; omega) (by omega) (by have := HL.out; have := HW0.out; simp only [List.length_append] at *; omega) (fun S5 w5 hnd _ => ?_)
    have HND5 := Aside0.mk hnd
    clear hnd HND2 b2 hcv b0
    go_wp2_with fail
    refine words_lit HP.out HND5.out [sR] 9 w5.heap.size 1 1 _ rfl rfl rfl (by decide) (by omega) (by have := HL.out; have := HW0.out; simp only [List.length_append] at *; omega) (fun S9 w9 hnd _ => ?_)
    have HND9 := Aside0.mk hnd
    clear hnd
    have hE : (l ++ txs [sL, sType] ++ txs [sSym, sTarget, sd] ++ txs [sR]) = l ++ nodeB (N + 1) t := by rw [nodeB, if_neg (show ¬ t.f0 = 1 from by omega), if_pos k3, hsd]; simp only [List.append_assoc, List.nil_append]
    rw [hE] at HND9
    clear hE
    go_wp2_with fail
    exact bodyPost_ret (v := .tuple #[]) (by simp [results, Try.results45, go_sem]) rfl ⟨rfl, S9, HND9.out.i, HND9.out.k, HND9.out.s⟩
  · rw [k2] at b0
    rw [if_neg (by omega), if_neg (by omega)] at HW0
    clear b1 b2 b3 b4
    go_wp2_with fail
    refine words_lit HP.out HND2.out [sDir] 9 w2.heap.size 1 1 _ rfl rfl rfl (by decide) (by omega) (by have := HL.out; have := HW0.out; simp only [List.length_append] at *; omega) (fun S3 w3 hnd _ => ?_)
    have HND3 := Aside0.mk hnd
    clear hnd HND2 b0
    obtain ⟨-, -, -, -, b4⟩ := cells5 HND3.out.hq
    go_wp2_with fail
    clear b4
    go_loopw [19] (fun v wr => ∃ (k : Nat) (S' : Nat → Prop), v = .int .i64 (k : Int) ∧ k ≤ t.f4.length ∧ Aside0 (ND F cap I S w0 w p q #[.int .i64 t.f0, .bool t.f1, .slice A2 t.f2.length c2, .slice A3 t.f3.length c3, .slice A4 t.f4.length c4] S' (l ++ txs [sL, sType] ++ txs [sDir] ++ kidsB (nodeB N) t.f3 (t.f4.take k)) wr)) (fun v _ => t.f4.length - (intOf v).toNat)
    case atStart => exact ⟨0, S3, rfl, Nat.zero_le _, ⟨by simpa [kidsB] using HND3.out⟩⟩
    case round =>
      clear HND3
      obtain ⟨k, S', rfl, hk, HND4⟩ := hrel
      by_cases hlt : k < t.f4.length
      · obtain ⟨ad, B2, d2, B3, d3, B4, d4, hA, e0, e1, e2, e3, e4, r1, r2, r3, r4, r5, r6⟩ := at_T26 HKK.out (k : Int) (by omega) (by omega)
        obtain ⟨u, hu⟩ : ∃ x, rd_T26 t.f4 (k : Int) = x := ⟨_, rfl⟩
        have hue : t.f4[k] = u := by rw [← hu]; unfold rd_T26; rw [Int.toNat_natCast, List.getD_eq_getElem?_getD, List.getElem?_eq_getElem hlt]; rfl
        have HU := Aside0.mk hue
        have HGU : Aside0 (GT N u) := ⟨hue ▸ HG8.out _ (List.getElem_mem hlt)⟩
        have HOU : Aside0 (Okt N u) := ⟨hue ▸ HO3.out _ (List.getElem_mem hlt)⟩
        rw [hu] at e0 e1 e2 e3 e4 r1 r2 r3 r4 r5 r6
        rw [Int.toNat_natCast] at e0 e1 e2 e3 e4
        have f0 := pw_cell_below HND4.out.b e0
        have f1 := pw_cell_below HND4.out.b e1
        have f2 := pw_cell_below HND4.out.b e2
        have f3 := pw_cell_below HND4.out.b e3
        have f4 := pw_cell_below HND4.out.b e4
        have HTR : Aside0 (TR w0 u B2 d2 B3 d3 B4 d4) := ⟨⟨r1, r2, r3, r4, r5, r6⟩⟩
        obtain ⟨ad2, hA2, hcs⟩ := Kd.at_string HNM.out (k : Int) (by omega) (by have := HLN.out; omega)
        obtain ⟨s, hs⟩ : ∃ x, rdOf ByteArray.empty t.f3 (k : Int) = x := ⟨_, rfl⟩
        rw [hs, Int.toNat_natCast] at hcs
        have hlt3 : k < t.f3.length := by have := HLN.out; omega
        have hse : t.f3[k] = s := by rw [← hs, rdOf_nat, List.getD_eq_getElem?_getD, List.getElem?_eq_getElem hlt3]; rfl
        have hsz : s.size ≤ 140737488351232 := hse ▸ HG5.out _ (List.getElem_mem hlt3)
        have HSK := Aside0.mk hs
        have HCS := Aside0.mk hcs
        subst hA hA2
        clear hue hu e0 e1 e2 e3 e4 r1 r2 r3 r4 r5 r6 hs hse hcs
        go_upto_region 8 with fail
        have HKB := Aside0.mk (heap_alloc_new wr (.cells #[.int .i64 u.f0, .bool u.f1, .slice B2 u.f2.length d2, .slice B3 u.f3.length d3, .slice B4 u.f4.length d4] 26))
        have hbw := below_alloc (Below.refl wr.heap.size wr) (.cells #[.int .i64 u.f0, .bool u.f1, .slice B2 u.f2.length d2, .slice B3 u.f3.length d3, .slice B4 u.f4.length d4] 26)
        have HND5 := Aside0.mk (HND4.out.below HP.out hbw)
        have HNR : Aside0 (¬ S' wr.heap.size) := ⟨fun hs => by have := HP.out.lt _ _ _ HND4.out.i _ hs; omega⟩
        generalize (wr.alloc (.cells #[.int .i64 u.f0, .bool u.f1, .slice B2 u.f2.length d2, .slice B3 u.f3.length d3, .slice B4 u.f4.length d4] 26)) = wb at *
        generalize wr.heap.size = rb at *
        clear hbw HND4 f0 f1 f2 f3 f4
        obtain ⟨-, -, -, b3, -⟩ := cells5 HND5.out.hq
        have hcs := pw_cell_below HND5.out.b HCS.out
        have hBN : (l ++ txs [sL, sType] ++ txs [sDir] ++ kidsB (nodeB N) t.f3 (t.f4.take k)).length + (txs [sEntry, sL, sName, s, sNode]).length + (nodeB N u).length + (txs [sR]).length ≤ 140737488355328 := by
          have h1 := kidsB_take_le (nodeB N) t.f3 t.f4 (k + 1)
          rw [kidsB_take _ _ _ _ hlt, HU.out, HSK.out] at h1
          have h2 := HW0.out
          have h3 := HL.out
          unfold entryB at h1
          simp only [List.length_append] at *
          omega
        have HBN := Aside0.mk hBN
        clear hBN
        go_wp2_with fail
        refine words_lit HP.out HND5.out [sEntry, sL, sName, s, sNode] 9 wb.heap.size 5 5 _ rfl rfl rfl (by intro s hs; simp at hs; rcases hs with rfl | rfl | rfl | rfl | rfl; (· decide); (· decide); (· decide); (· exact hsz); decide) (by omega) (by have := HBN.out; omega) (fun S6 w6 hnd hkb => ?_)
        have HND6 := Aside0.mk hnd
        have HKB6 := Aside0.mk (hkb.blk HKB.out HNR.out)
        clear hnd hkb HND5 b3 HKB HNR hcs
        obtain ⟨e0, e1, e2, e3, e4⟩ := cells5 HKB6.out
        have cellp : w6.cell? ⟨p, 0, none⟩ = some (.func (.func F) #[] #[cap]) := (blk_cell HND6.out.hp 0).trans rfl
        go_wp2_with fail
        refine (IH.out u B2 d2 B3 d3 B4 d4 S6 _ w6 HTR.out HGU.out HOU.out HND6.out.i HND6.out.b HND6.out.lo (by have := HBN.out; simp only [List.length_append] at *; omega)).mono ?_
        rintro e_ w7 ⟨rfl, S7, hI7, hk7, hs7⟩
        have HND7 := Aside0.mk (HND6.out.put hI7 hk7 hs7)
        clear hI7 hk7 hs7 HND6 HKB6 e0 e1 e2 e3 e4 cellp
        go_wp2_with fail
        refine words_lit HP.out HND7.out [sR] 9 w7.heap.size 1 1 _ rfl rfl rfl (by decide) (by omega) (by have := HBN.out; simp only [List.length_append] at *; omega) (fun S8 w8 hnd _ => ?_)
        have HND8 := Aside0.mk hnd
        clear hnd HND7
        go_wp2_with fail
        refine ⟨⟨k + 1, S8, by go_num, by omega, ⟨?_⟩⟩, by simp [intOf]; omega⟩
        have h9 := HND8.out
        rw [kidsB_take _ _ _ _ hlt, HU.out, HSK.out]
        unfold entryB
        simp only [List.append_assoc] at h9 ⊢
        exact h9
      · have hkk : k = t.f4.length := by omega
        subst hkk
        rw [List.take_length] at HND4
        go_wp2_with fail
        refine words_lit HP.out HND4.out [sR] 9 wr.heap.size 1 1 _ rfl rfl rfl (by decide) (by omega) (by have := HL.out; have := HW0.out; simp only [List.length_append] at *; omega) (fun S9 w9 hnd _ => ?_)
        have HND9 := Aside0.mk hnd
        clear hnd
        have hE : (l ++ txs [sL, sType] ++ txs [sDir] ++ kidsB (nodeB N) t.f3 t.f4 ++ txs [sR]) = l ++ nodeB (N + 1) t := by rw [nodeB, if_neg (show ¬ t.f0 = 1 from by omega), if_neg (show ¬ t.f0 = 3 from by omega)]; simp only [List.append_assoc, List.nil_append]
        rw [hE] at HND9
        clear hE
        go_wp2_with fail
        exact bodyPost_ret (v := .tuple #[]) (by simp [results, Try.results45, go_sem]) rfl ⟨rfl, S9, HND9.out.i, HND9.out.k, HND9.out.s⟩
theorem node_full {F : Nat} {cap : Value} {I : (Nat → Prop) → List Int → World → Prop} (hP : Puts F cap I) (w0 : World) : ∀ N, NK F cap I w0 N := by
  intro N
  induction N with
  | zero => intro t A2 c2 A3 c3 A4 c4 S l w h hG; exact hG.elim
  | succ N ih => exact node_step hP w0 N ih
end Go.Proofs.Ythhajkmeadapgaa.Tree
