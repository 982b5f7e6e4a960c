/- nar's reader: entries walked. Own work; printed by gen_dce.py out of DcE.head. -/
import Derived.Test.YthhajkmeadapgaaDcJ
namespace Go.Proofs.Ythhajkmeadapgaa.Tree
set_option linter.unusedVariables false
set_option linter.unusedSimpArgs false
open Go.RowKit Go.Proofs.Ythhajkmeadapgaa.PL Go.Proofs.Ythhajkmeadapgaa.Mn Go.Proofs.YthhajkmeadapgaaW.PrintWords Go.Proofs.YthhajkmeadapgaaW.PrintLast Go.Proofs.YthhajkmeadapgaaW.PrintMore
theorem row1 {W : World} {a : Nat} {nm : ByteArray} (h : W.heap[a]? = some (.cells #[.string nm] 9 (0, 0))) : ReadsRow (fun q c => c = [.string q]) 1 W (some ⟨a, 0, none⟩) 1 [nm] :=
  ⟨rfl, by decide, fun _ => ⟨_, rfl, fun j q hj => ⟨[.string q], rfl, rfl, fun i u hu => by
    cases j with
    | zero =>
      simp at hj
      subst hj
      cases i with
      | zero => simp at hu; subst hu; exact (blk_cell h 0).trans rfl
      | succ i => simp at hu
    | succ j => simp at hj⟩⟩⟩
theorem row5 {W : World} {a : Nat} {kid : S26} {x0 x1 x2 x3 x4 : Value} (h : W.heap[a]? = some (.cells #[x0, x1, x2, x3, x4] 26 (0, 0))) : ReadsRow (fun q c => q = kid ∧ c = [x0, x1, x2, x3, x4]) 5 W (some ⟨a, 0, none⟩) 1 [kid] :=
  ⟨rfl, by decide, fun _ => ⟨_, rfl, fun j q hj => ⟨[x0, x1, x2, x3, x4], rfl, ⟨by cases j <;> simp at hj; exact hj.symm, rfl⟩, fun i u hu => by
    cases j with
    | zero =>
      rw [show (Addr.add ⟨a, 0, none⟩ (0 * 5 + i)) = ⟨a, i, none⟩ from by rw [add_plain]; simp]
      rw [blk_cell h i]
      simpa using hu
    | succ j => simp at hj⟩⟩⟩
theorem info26 : (Try.prog.info? 26).map (fun i => (i.zero, i.size, i.bytes)) = some (some (.agg #[.int .i64 0, .bool false, .slice none 0 0, .slice none 0 0, .slice none 0 0]), 5, 88) := by kernel_rfl
theorem info9 : (Try.prog.info? 9).map (fun i => (i.zero, i.size, i.bytes)) = some (some (.string ByteArray.empty), 1, 16) := by kernel_rfl
set_option maxRecDepth 20000 in
set_option maxHeartbeats 2000000 in
theorem entries_any (w0 : World) (g F : Nat) (ih : NDC w0 g F) (deep : Nat) (hd : deep + 1 + F = 66) (s : RS) (n p : Nat) (w : World) (h : EN w0 w w g p s n [] [] (.slice none 0 0) (.slice none 0 0)) (hp0 : w0.heap.size ≤ p) (hl : s.1.length ≤ 1073741824) (hn : n + s.1.length ≤ 1099511627776) :
    Calls Try.prog 68 #[.pointer (some ⟨g, 0, none⟩), .pointer (some ⟨p, 0, none⟩), .int .i64 (deep : Int)] w fun e w' => e = .returned (.tuple #[]) ∧ ∃ v3 v4, EN w0 w w' g p (entS (nodeS F (deep + 1)) (s.1.length + 1) (s, n) ([], [])).2.1 (entS (nodeS F (deep + 1)) (s.1.length + 1) (s, n) ([], [])).2.2 (entS (nodeS F (deep + 1)) (s.1.length + 1) (s, n) ([], [])).1.1 (entS (nodeS F (deep + 1)) (s.1.length + 1) (s, n) ([], [])).1.2 v3 v4 ∧
      (entS (nodeS F (deep + 1)) (s.1.length + 1) (s, n) ([], [])).1.1.length ≤ 1073741824 ∧ (∀ x ∈ (entS (nodeS F (deep + 1)) (s.1.length + 1) (s, n) ([], [])).1.1, x.size ≤ 1073741824) ∧ (entS (nodeS F (deep + 1)) (s.1.length + 1) (s, n) ([], [])).1.2.length ≤ 1073741824 ∧ (∀ u ∈ (entS (nodeS F (deep + 1)) (s.1.length + 1) (s, n) ([], [])).1.2, GT F u) := by
  obtain ⟨T, hT⟩ : ∃ q, entS (nodeS F (deep + 1)) (s.1.length + 1) (s, n) ([], []) = q := ⟨_, rfl⟩
  rw [hT]
  have HT := Aside0.mk hT
  have HEN := Aside0.mk h
  have IH := Aside0.mk ih
  have HW0 : Aside0 (w0.heap.size ≤ w.heap.size ∧ w0.heap.size ≤ p) := ⟨⟨h.rd.b.size, hp0⟩⟩
  clear h ih hT
  go_enter Try.func68, Try.ntmps68
  go_wp2_with fail
  go_loopw [6] (fun v wr => ∃ (s' : RS) (n' L : Nat) (ns : List ByteArray) (ks : List S26) (v3 v4 : Value), Aside0 (EN w0 w wr g p s' n' ns ks v3 v4) ∧ s'.1.length < L ∧ ns.length + s'.1.length ≤ 1073741824 ∧ ks.length = ns.length ∧ n' + s'.1.length ≤ 1099511627776 ∧ Aside0 (entS (nodeS F (deep + 1)) L (s', n') (ns, ks) = T) ∧ Aside0 ((∀ x ∈ ns, x.size ≤ 1073741824) ∧ ∀ u ∈ ks, GT F u)) (fun _ wr => restLen wr g)
  case atStart => exact ⟨s, n, s.1.length + 1, [], [], _, _, HEN, Nat.lt_succ_self _, by simpa using hl, rfl, hn, HT, ⟨⟨fun x hx => (by cases hx), fun x hx => (by cases hx)⟩⟩⟩
  case round =>
    clear HEN HT
    obtain ⟨s', n', L, ns, ks, v3, v4, HEN, hL, hns, hks, hn', HT, HG⟩ := hrel
    obtain ⟨L, rfl⟩ : ∃ q, L = q + 1 := ⟨L - 1, by omega⟩
    obtain ⟨A, c, hblk, -, -⟩ := HEN.out.rd.blk
    obtain ⟨⟨p0, p1, p2⟩, -⟩ := cells3 hblk
    have HRL := Aside0.mk HEN.out.rd.rest
    clear hblk p0 p2
    have fin : ∀ {s'' : RS} {w'' : World}, T = ((ns, ks), s'', n') → EN w0 w w'' g p s'' n' ns ks v3 v4 → (∃ v3 v4, EN w0 w w'' g p T.2.1 T.2.2 T.1.1 T.1.2 v3 v4 ∧ T.1.1.length ≤ 1073741824 ∧ (∀ x ∈ T.1.1, x.size ≤ 1073741824) ∧ T.1.2.length ≤ 1073741824 ∧ (∀ u ∈ T.1.2, GT F u)) := by
      intro s'' w'' hT hE
      rw [hT]
      exact ⟨v3, v4, hE, by show ns.length ≤ _; omega, HG.out.1, by show ks.length ≤ _; omega, HG.out.2⟩
    have FIN := Aside0.mk @fin
    clear fin
    by_cases h0 : s'.2 = 0
    · rw [h0] at p1
      go_wp2_with fail
      refine (text_any w0 wr g s' n' HEN.out.rd (by omega)).mono ?_
      rintro e_ w2 ⟨A2, c2, rfl, hc2, hC2, hr2, hk2, h8⟩
      have HEN2 := Aside0.mk (HEN.out.keep hr2 hk2)
      have hlen2 := txS_len s'
      have hfall := @txS_fall s'
      have HEQ : Aside0 (T = if (txS s').2.2 ≠ 0 ∨ (txS s').1 = bytesOf sR then ((ns, ks), (txS s').2, n') else if (txS s').1 ≠ bytesOf sEntry then ((ns, ks), flS (txS s').2 3, n') else entS (nodeS F (deep + 1)) L (wdS (nodeS F (deep + 1) (wdS (txS (wdS (txS s').2 [sL, sName])).2 [sNode], n')).2.1 [sR], (nodeS F (deep + 1) (wdS (txS (wdS (txS s').2 [sL, sName])).2 [sNode], n')).2.2) (ns ++ [strOfNums (txS (wdS (txS s').2 [sL, sName])).1], ks ++ [(nodeS F (deep + 1) (wdS (txS (wdS (txS s').2 [sL, sName])).2 [sNode], n')).1])) := ⟨by rw [← HT.out, entS, if_neg (by rw [h0]; simp)]⟩
      obtain ⟨l2, hl2⟩ : ∃ q, (txS s').1 = q := ⟨_, rfl⟩
      obtain ⟨s2, hs2⟩ : ∃ q, (txS s').2 = q := ⟨_, rfl⟩
      rw [hl2] at HEQ hlen2 hC2 hc2 h8 ⊢
      rw [hs2] at HEQ hlen2 HEN2 hr2 hfall
      have hcv := Kd.C_string (c := c2) (src := 22) (dst := 9) Try.underlying22 Try.underlying5 Try.underlying9 (Kd.C_below hC2 hr2.b)
      have hsR := str_lit h8 sR [41] rfl
      have hsE := str_lit h8 sEntry [101, 110, 116, 114, 121] rfl
      obtain ⟨y, hy⟩ : ∃ q, strOfNums l2 = q := ⟨_, rfl⟩
      rw [hy] at hcv hsR hsE
      obtain ⟨A', c', hblk, -, -⟩ := hr2.blk
      obtain ⟨⟨p0, p1, p2⟩, -⟩ := cells3 hblk
      clear hblk p0 p2 hc2 hC2 hr2 hk2 h8 hl2 hs2 hy HT HEN
      by_cases hq : s2.2 = 0
      · rw [hq] at p1
        have hfl := hfall hq
        by_cases hR : l2 = bytesOf sR
        · have e1 : (y.toList == [41]) = true := by rw [hsR.2 hR]; simp
          have HTT : Aside0 (T = ((ns, ks), s2, n')) := ⟨by rw [HEQ.out, if_pos (.inr hR)]⟩
          clear hsR hsE hfall HEQ hR
          go_wp2_with fail
          exact bodyPost_ret (v := .tuple #[]) (by simp [results, Try.results68, go_sem]) rfl ⟨rfl, FIN.out HTT.out HEN2.out⟩
        · have e1 : (y.toList == [41]) = false := by simpa using fun h => hR (hsR.1 h)
          by_cases hE : l2 = bytesOf sEntry
          · have e2 : (y.toList == [101, 110, 116, 114, 121]) = true := by rw [hsE.2 hE]; simp
            have HT2 := Aside0.mk (show T = _ from by rw [HEQ.out, if_neg (fun h => h.elim (fun h => h hq) hR), if_neg (fun h => h hE)])
            clear hsR hsE hfall HEQ hR hE
            have hw2 : (wdS s2 [sL, sName]).1.length ≤ s2.1.length := wdS_len _ _
            obtain ⟨s3, hs3⟩ : ∃ q, wdS s2 [sL, sName] = q := ⟨_, rfl⟩
            rw [hs3] at HT2 hw2
            have hs3' := hs3
            clear hs3
            have HENa := Aside0.mk (HEN2.out.below (below_alloc (Below.refl _ w2) (.cells ([sL, sName].map Value.string).toArray 9)))
            have HGL : Aside0 (w2.heap.size ≠ g) := ⟨by have := HEN2.out.gw; have := HEN2.out.kp.1; omega⟩
            go_wp2_with fail
            refine (word_any w0 (w2.alloc (.cells ([sL, sName].map Value.string).toArray 9)) g s2 n' (some ⟨w2.heap.size, 0, none⟩) 2 [sL, sName] HENa.out.rd (by omega) (lit_C (by omega) (n := 2) rfl HGL.out 9) (by decide)).mono ?_
            rintro e_ w3 ⟨rfl, hr3, hk3⟩
            rw [hs3'] at hr3
            have HEN3 := Aside0.mk (HENa.out.keep hr3 hk3)
            clear hr3 hk3 HENa HGL HEN2 e1 e2 p1
            go_wp2_with fail
            refine (text_any w0 w3 g s3 n' HEN3.out.rd (by omega)).mono ?_
            rintro e_ w4 ⟨A5, c5, rfl, hc5, hC5, hr5, hk5, h85⟩
            have HEN4 := Aside0.mk (HEN3.out.keep hr5 hk5)
            have hlen5 := txS_len s3
            obtain ⟨l5, hl5⟩ : ∃ q, (txS s3).1 = q := ⟨_, rfl⟩
            obtain ⟨s5, hs5⟩ : ∃ q, (txS s3).2 = q := ⟨_, rfl⟩
            rw [hl5] at HT2 hlen5 hC5 hc5 h85 ⊢
            rw [hs5] at HT2 hlen5 HEN4 hr5
            have hcv5 := Kd.C_string (c := c5) (src := 22) (dst := 9) Try.underlying22 Try.underlying5 Try.underlying9 (Kd.C_below hC5 hr5.b)
            have hnsz := strOfNums_len l5
            obtain ⟨nm, hnm⟩ : ∃ q, strOfNums l5 = q := ⟨_, rfl⟩
            rw [hnm] at hcv5 HT2 hnsz
            have HENb := Aside0.mk (HEN4.out.below (below_alloc (Below.refl _ w4) (.cells ([sNode].map Value.string).toArray 9)))
            have HGLb : Aside0 (w4.heap.size ≠ g) := ⟨by have := HEN4.out.gw; have := HEN4.out.kp.1; omega⟩
            have hw6 : (wdS s5 [sNode]).1.length ≤ s5.1.length := wdS_len _ _
            obtain ⟨s6, hs6⟩ : ∃ q, wdS s5 [sNode] = q := ⟨_, rfl⟩
            rw [hs6] at HT2 hw6
            clear hl5 hs5 hnm hC5 hc5 h85 hr5 hk5 HEN3
            go_wp2_with fail
            refine (word_any w0 (w4.alloc (.cells ([sNode].map Value.string).toArray 9)) g s5 n' (some ⟨w4.heap.size, 0, none⟩) 1 [sNode] HENb.out.rd (by omega) (lit_C (by omega) (n := 1) rfl HGLb.out 9) (by decide)).mono ?_
            rintro e_ w6 ⟨rfl, hr6, hk6⟩
            rw [hs6] at hr6
            have HEN6 := Aside0.mk (HENb.out.keep hr6 hk6)
            have H34 : Aside0 ((∀ k, v3.ownBlock = some k → k < w6.heap.size) ∧ (∀ k, v4.ownBlock = some k → k < w6.heap.size)) := ⟨⟨fun k hk => (R_own HEN6.out.rn k hk).2, fun k hk => (R_own HEN6.out.rk k hk).2⟩⟩
            clear hr6 hk6 HENb HGLb HEN4 hcv5 hs6
            go_wp2_with fail
            have hdd : ((deep : Int) + 1) = ((deep + 1 : Nat) : Int) := by omega
            rw [hdd]
            refine (IH.out (deep + 1) s6 n' w6 hd HEN6.out.rd (by omega) (by omega)).mono ?_
            rintro e_ w7 ⟨cs, rfl, hM7, hG7, hr7, hk7⟩
            have HEN7 := Aside0.mk (HEN6.out.keep hr7 hk7)
            have hlen7 := nodeS_len F (deep + 1) (s6, n')
            obtain ⟨kid, hkid⟩ : ∃ q, (nodeS F (deep + 1) (s6, n')).1 = q := ⟨_, rfl⟩
            obtain ⟨s7, hs7⟩ : ∃ q, (nodeS F (deep + 1) (s6, n')).2.1 = q := ⟨_, rfl⟩
            obtain ⟨n7, hn7⟩ : ∃ q, (nodeS F (deep + 1) (s6, n')).2.2 = q := ⟨_, rfl⟩
            rw [hkid] at HT2 hM7 hG7
            rw [hs7] at HT2 hlen7 HEN7
            rw [hn7] at HT2 hlen7 HEN7
            simp only at hlen7
            obtain ⟨k2, k3, k4, hcs, hK2, hK3, hK4⟩ := k26_openM hM7
            obtain ⟨cs, rfl⟩ : ∃ l : List Value, cs = l.toArray := ⟨cs.toList, by simp⟩
            simp only [List.toList_toArray] at hcs hM7
            obtain ⟨q2, d2, rfl⟩ := Kd.R_slice hK2
            obtain ⟨q3, d3, rfl⟩ := Kd.R_slice hK3
            obtain ⟨q4, d4, rfl⟩ := Kd.R_slice hK4
            subst hcs
            have HM7 := Aside0.mk hM7
            have HG7 := Aside0.mk hG7
            have H67 : Aside0 (w.heap.size ≤ w6.heap.size ∧ w6.heap.size ≤ w7.heap.size) := ⟨HEN6.out.kp.1, hk7.1⟩
            clear hkid hs7 hn7 hM7 hG7 hr7 hk7 HEN6 hK2 hK3 hK4 hdd
            have HX8 := Aside0.mk (heap_alloc_new w7 (.cells #[.int .i64 kid.f0, .bool kid.f1, .slice q2 kid.f2.length d2, .slice q3 kid.f3.length d3, .slice q4 kid.f4.length d4] 26))
            have hb8 := below_alloc (Below.refl w7.heap.size w7) (.cells #[.int .i64 kid.f0, .bool kid.f1, .slice q2 kid.f2.length d2, .slice q3 kid.f3.length d3, .slice q4 kid.f4.length d4] 26)
            have HEN8 := Aside0.mk (HEN7.out.below hb8)
            have HM8 := Aside0.mk (Kd.M_below HM7.out hb8)
            have HQ8 : Aside0 (w7.heap.size ≠ g ∧ w7.heap.size ≠ p ∧ w.heap.size ≤ w7.heap.size) := ⟨by have := HEN7.out.gw; have := HEN7.out.pw; have := H67.out; omega⟩
            clear hb8
            go_upto_region 9 with fail
            obtain ⟨wb, hwb⟩ : ∃ q, (w7.alloc (.cells #[.int .i64 kid.f0, .bool kid.f1, .slice q2 kid.f2.length d2, .slice q3 kid.f3.length d3, .slice q4 kid.f4.length d4] 26)) = q := ⟨_, rfl⟩
            obtain ⟨kb, hkb⟩ : ∃ q, w7.heap.size = q := ⟨_, rfl⟩
            rw [hwb] at HX8 HEN8 HM8 ⊢
            rw [hkb] at HX8 HQ8 H67 ⊢
            clear hwb hkb HEN7 HM7
            have HENc := Aside0.mk (HEN8.out.below (below_alloc (Below.refl _ wb) (.cells ([sR].map Value.string).toArray 9)))
            have HGLc : Aside0 (wb.heap.size ≠ g) := ⟨by have := HEN8.out.gw; have := HEN8.out.kp.1; omega⟩
            have HXc := Aside0.mk (blk_alloc HX8.out (.cells ([sR].map Value.string).toArray 9))
            have HMc := Aside0.mk (Kd.M_below HM8.out (below_alloc (Below.refl _ wb) (.cells ([sR].map Value.string).toArray 9)))
            have hw9 : (wdS s7 [sR]).1.length ≤ s7.1.length := wdS_len _ _
            obtain ⟨s9, hs9⟩ : ∃ q, wdS s7 [sR] = q := ⟨_, rfl⟩
            rw [hs9] at HT2 hw9
            go_wp2_with fail
            refine (word_any w0 (wb.alloc (.cells ([sR].map Value.string).toArray 9)) g s7 n7 (some ⟨wb.heap.size, 0, none⟩) 1 [sR] HENc.out.rd (by omega) (lit_C (by omega) (n := 1) rfl HGLc.out 9) (by decide)).mono ?_
            rintro e_ w9 ⟨rfl, hr9, hk9⟩
            rw [hs9] at hr9
            have HEN9 := Aside0.mk (HENc.out.keep hr9 hk9)
            have HX9 := Aside0.mk (hk9.blk HXc.out HQ8.out.1 (by simp))
            have HM9 := Aside0.mk (k26.M_mono (ok' := fun k => w6.heap.size ≤ k ∧ k < wb.heap.size) (fun k hk => ⟨hk.2.1, hk.2.2.1⟩) (Kd.M_keep (k26.M_bound HM8.out) (KeepBut.trans (KeepBut.of_below (below_alloc (Below.refl _ wb) (.cells ([sR].map Value.string).toArray 9)) g none) hk9 (.inl rfl)) (fun k hk => by have := HEN8.out.gw; have := H67.out; omega)))
            have H9 : Aside0 (wb.heap.size ≤ w9.heap.size) := ⟨by have := hk9.1; simp at this; omega⟩
            clear hr9 hk9 HENc HGLc HXc HMc HEN8 HX8 HM8 hs9
            obtain ⟨x0, x1, x2, x3, x4⟩ := cells5 HX9.out
            obtain ⟨y0, y1, y2, y3, y4⟩ := cells5 HEN9.out.bx
            go_upto_region 10 with fail
            have HKS := Aside0.mk hks
            have hkl : ks.length ≤ 1073741824 := by omega
            clear hks
            have LEN3 : Aside0 ((ns ++ [nm]).length = ns.length + 1) := ⟨by simp⟩
            have LEN4 : Aside0 ((ks ++ [kid]).length = ks.length + 1) := ⟨by simp⟩
            obtain ⟨A3, c3, rfl⟩ := Kd.R_slice HEN9.out.rn
            obtain ⟨A4, c4, rfl⟩ := Kd.R_slice HEN9.out.rk
            have HQ := Aside0.mk (AQ.of HEN9.out HM9.out H34.out.1 H34.out.2 H9.out H67.out.1)
            have HQ := Aside0.mk (HQ.out.below (below_drew (Below.refl _ w9)))
            have HKB : Aside0 (w9.drew.heap[kb]? = some (.cells #[.int .i64 kid.f0, .bool kid.f1, .slice q2 kid.f2.length d2, .slice q3 kid.f3.length d3, .slice q4 kid.f4.length d4] 26 (0, 0))) := HX9
            have HO3 : Aside0 (∀ k, (Value.slice A3 ns.length c3).ownBlock = some k → k < w9.heap.size) := ⟨fun k hk => (R_own HEN9.out.rn k hk).2⟩
            have HO4 : Aside0 (∀ k, (Value.slice A4 ks.length c4).ownBlock = some k → k < w9.heap.size) := ⟨fun k hk => (R_own HEN9.out.rk k hk).2⟩
            have HKN : Aside0 ((Value.slice A3 ns.length c3).ownBlock ≠ some kb ∧ (Value.slice A4 ks.length c4).ownBlock ≠ some kb) := ⟨⟨fun he => by have := H34.out.1 kb he; have := HQ8.out; have := H67.out; omega, fun he => by have := H34.out.2 kb he; have := HQ8.out; have := H67.out; omega⟩⟩
            have HSZ : Aside0 (w9.heap.size ≤ w9.drew.heap.size) := ⟨Nat.le_refl _⟩
            have H00 : Aside0 (w0.heap.size ≤ w.heap.size) := ⟨HW0.out.1⟩
            refine start_ (n := 22) (S := fun w' => w'.cell? ⟨p, 3, none⟩ = some (.slice A3 ns.length c3) ∧ w'.cell? ⟨p, 4, none⟩ = some (.slice A4 ks.length c4) ∧ w'.cell? ⟨kb, 0, none⟩ = some (.int .i64 kid.f0) ∧ w'.cell? ⟨kb, 1, none⟩ = some (.bool kid.f1) ∧ w'.cell? ⟨kb, 2, none⟩ = some (.slice q2 kid.f2.length d2) ∧ w'.cell? ⟨kb, 3, none⟩ = some (.slice q3 kid.f3.length d3) ∧ w'.cell? ⟨kb, 4, none⟩ = some (.slice q4 kid.f4.length d4)) (ds := [18, 21]) #[false, false, false, false, false, false, false, false, false, false, false, false, false, false, false, false, false, false, false, false, false, false] (by kernel_rfl) rfl rfl ⟨(blk_cell HQ.out.bx 3).trans rfl, (blk_cell HQ.out.bx 4).trans rfl, (blk_cell HKB.out 0).trans rfl, (blk_cell HKB.out 1).trans rfl, (blk_cell HKB.out 2).trans rfl, (blk_cell HKB.out 3).trans rfl, (blk_cell HKB.out 4).trans rfl⟩ (fun hHeld => ?_)
            obtain ⟨wc, hwc⟩ : ∃ q, w9.drew = q := ⟨_, rfl⟩
            rw [hwc] at HQ HKB HSZ hHeld ⊢
            clear hwc x0 x1 x2 x3 x4 y0 y1 y2 y3 y4 HX9 HEN9 HM9
            refine pure_ (i := 0) (N := some 46) (v := ?_) (a' := ?_) #[true, false, false, false, false, false, false, false, false, false, false, false, false, false, false, false, false, false, false, false, false, false] rfl rfl (by kernel_rfl) (fun _ _ _ h => h) (Or.inl ⟨by rfl, ?_⟩) ?_ ?_
            rotate_left
            · intro w'
              go_simp
              with_reducible rfl
            rotate_left
            · simp only [Act.put, List.setIfInBounds_toArray, List.set_cons_zero, List.set_cons_succ]
              rfl
            refine pure_ (i := 1) (N := some 47) (v := ?_) (a' := ?_) #[true, true, false, false, false, false, false, false, false, false, false, false, false, false, false, false, false, false, false, false, false, false] rfl rfl (by kernel_rfl) (fun _ _ _ h => h) (Or.inl ⟨by rfl, ?_⟩) ?_ ?_
            rotate_left
            · intro w'
              go_simp
              with_reducible rfl
            rotate_left
            · simp only [Act.put, List.setIfInBounds_toArray, List.set_cons_zero, List.set_cons_succ]
              rfl
            refine pure_ (i := 2) (N := some 48) (v := ?_) (a' := ?_) #[true, true, true, false, false, false, false, false, false, false, false, false, false, false, false, false, false, false, false, false, false, false] rfl rfl (by kernel_rfl) (fun _ _ _ h => h) (Or.inl ⟨by rfl, ?_⟩) ?_ ?_
            rotate_left
            · intro w'
              go_simp
              with_reducible rfl
            rotate_left
            · simp only [Act.put, List.setIfInBounds_toArray, List.set_cons_zero, List.set_cons_succ]
              rfl
            refine pure_ (i := 3) (N := some 49) (v := ?_) (a' := ?_) #[true, true, true, true, false, false, false, false, false, false, false, false, false, false, false, false, false, false, false, false, false, false] rfl rfl (by kernel_rfl) (fun _ _ _ h => h) (Or.inl ⟨by rfl, ?_⟩) ?_ ?_
            rotate_left
            · intro w'
              go_simp
              with_reducible rfl
            rotate_left
            · simp only [Act.put, List.setIfInBounds_toArray, List.set_cons_zero, List.set_cons_succ]
              rfl
            refine pure_ (i := 4) (N := some 50) (v := ?_) (a' := ?_) #[true, true, true, true, true, false, false, false, false, false, false, false, false, false, false, false, false, false, false, false, false, false] rfl rfl (by kernel_rfl) (fun _ _ _ h => h) (Or.inl ⟨by rfl, ?_⟩) ?_ ?_
            rotate_left
            · intro w'
              go_simp
              with_reducible rfl
            rotate_left
            · simp only [Act.put, List.setIfInBounds_toArray, List.set_cons_zero, List.set_cons_succ]
              rfl
            refine pure_ (i := 6) (N := some 52) (v := ?_) (a' := ?_) #[true, true, true, true, true, false, true, false, false, false, false, false, false, false, false, false, false, false, false, false, false, false] rfl rfl (by kernel_rfl) (fun _ _ _ h => h) (Or.inl ⟨by rfl, ?_⟩) ?_ ?_
            rotate_left
            · intro w'
              go_simp
              with_reducible rfl
            rotate_left
            · simp only [Act.put, List.setIfInBounds_toArray, List.set_cons_zero, List.set_cons_succ]
              rfl
            refine pure_ (i := 9) (N := some 55) (v := ?_) (a' := ?_) #[true, true, true, true, true, false, true, false, false, true, false, false, false, false, false, false, false, false, false, false, false, false] rfl rfl (by kernel_rfl) (fun _ _ _ h => h) (Or.inl ⟨by rfl, ?_⟩) ?_ ?_
            rotate_left
            · intro w'
              go_simp
              with_reducible rfl
            rotate_left
            · simp only [Act.put, List.setIfInBounds_toArray, List.set_cons_zero, List.set_cons_succ]
              rfl
            refine pure_ (i := 10) (N := some 56) (v := ?_) (a' := ?_) #[true, true, true, true, true, false, true, false, false, true, true, false, false, false, false, false, false, false, false, false, false, false] rfl rfl (by kernel_rfl) (fun _ _ _ h => h) (Or.inl ⟨by rfl, ?_⟩) ?_ ?_
            rotate_left
            · intro w'
              go_simp
              with_reducible rfl
            rotate_left
            · simp only [Act.put, List.setIfInBounds_toArray, List.set_cons_zero, List.set_cons_succ]
              rfl
            refine pure_ (i := 11) (N := some 57) (v := ?_) (a' := ?_) #[true, true, true, true, true, false, true, false, false, true, true, true, false, false, false, false, false, false, false, false, false, false] rfl rfl (by kernel_rfl) (fun _ _ _ h => h) (Or.inl ⟨by rfl, ?_⟩) ?_ ?_
            rotate_left
            · intro w'
              go_simp
              with_reducible rfl
            rotate_left
            · simp only [Act.put, List.setIfInBounds_toArray, List.set_cons_zero, List.set_cons_succ]
              rfl
            refine take_ (i := 5) (N := some 51) (v := ?_) (a' := ?_) #[true, true, true, true, true, true, true, false, false, true, true, true, false, false, false, false, false, false, false, false, false, false] rfl rfl (by kernel_rfl) (fun _ _ _ h => h) (Or.inl ⟨by rfl, ?_⟩) hHeld ?_ ?_
            rotate_left
            · rintro w' ⟨s0, s1, s2, s3, s4, s5, s6⟩
              go_simp
              with_reducible rfl
            rotate_left
            · simp only [Act.put, List.setIfInBounds_toArray, List.set_cons_zero, List.set_cons_succ]
              rfl
            refine take_ (i := 12) (N := some 58) (v := ?_) (a' := ?_) #[true, true, true, true, true, true, true, false, false, true, true, true, true, false, false, false, false, false, false, false, false, false] rfl rfl (by kernel_rfl) (fun _ _ _ h => h) (Or.inl ⟨by rfl, ?_⟩) hHeld ?_ ?_
            rotate_left
            · rintro w' ⟨s0, s1, s2, s3, s4, s5, s6⟩
              go_simp
              with_reducible rfl
            rotate_left
            · simp only [Act.put, List.setIfInBounds_toArray, List.set_cons_zero, List.set_cons_succ]
              rfl
            refine take_ (i := 13) (N := some 59) (v := ?_) (a' := ?_) #[true, true, true, true, true, true, true, false, false, true, true, true, true, true, false, false, false, false, false, false, false, false] rfl rfl (by kernel_rfl) (fun _ _ _ h => h) (Or.inl ⟨by rfl, ?_⟩) hHeld ?_ ?_
            rotate_left
            · rintro w' ⟨s0, s1, s2, s3, s4, s5, s6⟩
              go_simp
              with_reducible rfl
            rotate_left
            · simp only [Act.put, List.setIfInBounds_toArray, List.set_cons_zero, List.set_cons_succ]
              rfl
            refine join_ (σ := (Value × Value) × (Value × Value)) 6 #[true, true, true, true, true, true, true, true, true, true, true, true, true, true, true, true, false, false, false, false, false, false] (fun s_ => [(53, s_.1.1), (54, s_.1.2), (60, s_.2.1), (61, s_.2.2)]) (fun s_ w' => ∃ q5 q6, s_ = (q5, q6) ∧ AQ w0 w w' g p s9 n7 (.slice A3 ns.length c3) (.slice A4 ks.length c4) w6.heap.size wb.heap.size kid [.int .i64 kid.f0, .bool kid.f1, .slice q2 kid.f2.length d2, .slice q3 kid.f3.length d3, .slice q4 kid.f4.length d4] (ns ++ [nm]) (ks ++ [kid]) q5.2 q6.2) ?_ ?_
            rotate_left
            · intro hCont
              refine two_ (i := 7) (j := 14) (Ni := some 53) (Nj := some 60) #[true, true, true, true, true, true, true, true, false, true, true, true, true, true, false, false, false, false, false, false, false, false] #[true, true, true, true, true, true, true, false, false, true, true, true, true, true, true, false, false, false, false, false, false, false] rfl rfl rfl rfl (by kernel_rfl) (by decide) (by decide) (fun K hK => ?_) (fun K hK => ?_)
              · skip
                go_simp
                have hal := below_alloc (Below.refl _ wc) (.cells #[.string nm] 9)
                obtain ⟨a1, ha1⟩ : ∃ q, wc.heap.size = q := ⟨_, rfl⟩
                have HA1 := Aside0.mk (heap_alloc_new wc (.cells #[.string nm] 9))
                have HQ := Aside0.mk (HQ.out.below hal)
                have HKB := Aside0.mk (blk_alloc HKB.out (.cells #[.string nm] 9))
                have HN1 : Aside0 (w9.heap.size ≤ a1) := ⟨by rw [← ha1]; exact HSZ.out⟩
                have HSZ : Aside0 (w9.heap.size ≤ (wc.alloc (.cells #[.string nm] 9)).heap.size) := ⟨Nat.le_trans HSZ.out hal.size⟩
                rw [ha1] at HA1 ⊢
                clear ha1 hal
                generalize wc.alloc (.cells #[.string nm] 9) = wc at *
                refine hK.out _ _ ⟨(blk_cell HQ.out.bx 3).trans rfl, (blk_cell HQ.out.bx 4).trans rfl, (blk_cell HKB.out 0).trans rfl, (blk_cell HKB.out 1).trans rfl, (blk_cell HKB.out 2).trans rfl, (blk_cell HKB.out 3).trans rfl, (blk_cell HKB.out 4).trans rfl⟩ (fun hHeld => ?_)
                clear hK K
                refine two_ (i := 8) (j := 14) (Ni := some 54) (Nj := some 60) #[true, true, true, true, true, true, true, true, true, true, true, true, true, true, false, false, false, false, false, false, false, false] #[true, true, true, true, true, true, true, true, false, true, true, true, true, true, true, false, false, false, false, false, false, false] rfl rfl rfl rfl (by kernel_rfl) (by decide) (by decide) (fun K hK => ?_) (fun K hK => ?_)
                · skip
                  refine Kd.R_append_rows_step Kd.string (w0 := wc) (Rr := fun q c => c = [.string q]) w.heap.size (by rfl) (.tmp 51) (.tmp 53) 23 9 (.string ByteArray.empty) 16 rfl Try.underlying23 info9 rfl (by decide) (by omega) (.slice A3 ns.length c3) ns [nm] (some ⟨a1, 0, none⟩) 1 1 (fun _ => True) (fun _ => False) rfl rfl HQ.out.rn (row1 HA1.out) (fun q c h => by rw [h]; rfl) (fun _ hk => hk.elim) (fun _ _ => trivial) (Below.refl _ _) HQ.out.kp.1 (by omega) ?_
                  intro v5 w5 hr5 hb5 hg5 hat5
                  have hkg : ∀ k : Nat, w9.heap.size ≤ k → some k ≠ (Value.slice A3 ns.length c3).ownBlock := fun k hk he => by have := HO3.out k he.symm; omega
                  have HKB := Aside0.mk ((hg5.block _ (blk_lt HKB.out) (fun he => HKN.out.1 he.symm)).trans HKB.out)
                  have HQ := Aside0.mk (HQ.out.app3 H00.out hr5 hg5 hat5)
                  have HSZ := Aside0.mk (Nat.le_trans HSZ.out hg5.size)
                  obtain ⟨A5, c5', rfl⟩ := Kd.R_slice hr5
                  rw [LEN3.out] at HQ ⊢
                  clear hr5 hb5 hg5 hat5 hkg
                  generalize w5 = wc at *
                  refine hK.out _ _ ⟨(blk_cell HQ.out.bx 3).trans rfl, (blk_cell HQ.out.bx 4).trans rfl, (blk_cell HKB.out 0).trans rfl, (blk_cell HKB.out 1).trans rfl, (blk_cell HKB.out 2).trans rfl, (blk_cell HKB.out 3).trans rfl, (blk_cell HKB.out 4).trans rfl⟩ (fun hHeld => ?_)
                  clear hK K
                  refine norm_ (a' := ?_) ?_ ?_
                  rotate_left
                  · show Act.put _ (some 54) _ = _
                    simp only [Act.put, List.setIfInBounds_toArray, List.set_cons_zero, List.set_cons_succ]
                    rfl
                  refine one_ (i := 14) (N := some 60) #[true, true, true, true, true, true, true, true, true, true, true, true, true, true, true, false, false, false, false, false, false, false] rfl rfl (by kernel_rfl) (by decide) (fun K hK => ?_)
                  go_simp
                  have hal := below_alloc (Below.refl _ wc) (.cells #[.int .i64 kid.f0, .bool kid.f1, .slice q2 kid.f2.length d2, .slice q3 kid.f3.length d3, .slice q4 kid.f4.length d4] 26)
                  obtain ⟨a2, ha2⟩ : ∃ q, wc.heap.size = q := ⟨_, rfl⟩
                  have HA2 := Aside0.mk (heap_alloc_new wc (.cells #[.int .i64 kid.f0, .bool kid.f1, .slice q2 kid.f2.length d2, .slice q3 kid.f3.length d3, .slice q4 kid.f4.length d4] 26))
                  have HQ := Aside0.mk (HQ.out.below hal)
                  have HKB := Aside0.mk (blk_alloc HKB.out (.cells #[.int .i64 kid.f0, .bool kid.f1, .slice q2 kid.f2.length d2, .slice q3 kid.f3.length d3, .slice q4 kid.f4.length d4] 26))
                  have HN2 : Aside0 (w9.heap.size ≤ a2) := ⟨by rw [← ha2]; exact HSZ.out⟩
                  have HSZ : Aside0 (w9.heap.size ≤ (wc.alloc (.cells #[.int .i64 kid.f0, .bool kid.f1, .slice q2 kid.f2.length d2, .slice q3 kid.f3.length d3, .slice q4 kid.f4.length d4] 26)).heap.size) := ⟨Nat.le_trans HSZ.out hal.size⟩
                  rw [ha2] at HA2 ⊢
                  clear ha2 hal
                  generalize wc.alloc (.cells #[.int .i64 kid.f0, .bool kid.f1, .slice q2 kid.f2.length d2, .slice q3 kid.f3.length d3, .slice q4 kid.f4.length d4] 26) = wc at *
                  refine hK.out _ _ ⟨(blk_cell HQ.out.bx 3).trans rfl, (blk_cell HQ.out.bx 4).trans rfl, (blk_cell HKB.out 0).trans rfl, (blk_cell HKB.out 1).trans rfl, (blk_cell HKB.out 2).trans rfl, (blk_cell HKB.out 3).trans rfl, (blk_cell HKB.out 4).trans rfl⟩ (fun hHeld => ?_)
                  clear hK K
                  refine one_ (i := 15) (N := some 61) #[true, true, true, true, true, true, true, true, true, true, true, true, true, true, true, true, false, false, false, false, false, false] rfl rfl (by kernel_rfl) (by decide) (fun K hK => ?_)
                  refine Kd.R_append_rows_step k26 (w0 := wc) (Rr := fun q c => q = kid ∧ c = [.int .i64 kid.f0, .bool kid.f1, .slice q2 kid.f2.length d2, .slice q3 kid.f3.length d3, .slice q4 kid.f4.length d4]) w.heap.size (by rfl) (.tmp 58) (.tmp 60) 24 26 (.agg #[.int .i64 0, .bool false, .slice none 0 0, .slice none 0 0, .slice none 0 0]) 88 rfl Try.underlying24 info26 rfl (by decide) (by omega) (.slice A4 ks.length c4) ks [kid] (some ⟨a2, 0, none⟩) 1 1 _ (fun k => w6.heap.size ≤ k ∧ k < wb.heap.size) rfl rfl HQ.out.rk (row5 HA2.out) (fun q c h => by rw [h.1, h.2]; exact k26.M_lower HQ.out.lw HQ.out.km) (fun k hk => ⟨fun he => by have := HQ.out.l3 k he.symm; omega, fun he => by have := HQ.out.l4 k he.symm; omega⟩) (fun k hk he => by have := R_own HQ.out.rn k he.symm; omega) (Below.refl _ _) HQ.out.kp.1 (by omega) ?_
                  intro v6 w8 hr6 hb6 hg6 hat6
                  have hkg : ∀ k : Nat, w9.heap.size ≤ k → some k ≠ (Value.slice A4 ks.length c4).ownBlock := fun k hk he => by have := HO4.out k he.symm; omega
                  have HKB := Aside0.mk ((hg6.block _ (blk_lt HKB.out) (fun he => HKN.out.2 he.symm)).trans HKB.out)
                  have HQ := Aside0.mk (HQ.out.app4 H00.out hr6 hg6 hat6)
                  obtain ⟨A6, c6, rfl⟩ := Kd.R_slice hr6
                  rw [LEN4.out] at HQ ⊢
                  clear hr6 hb6 hg6 hat6 hkg
                  refine hK.out _ _ ⟨(blk_cell HQ.out.bx 3).trans rfl, (blk_cell HQ.out.bx 4).trans rfl, (blk_cell HKB.out 0).trans rfl, (blk_cell HKB.out 1).trans rfl, (blk_cell HKB.out 2).trans rfl, (blk_cell HKB.out 3).trans rfl, (blk_cell HKB.out 4).trans rfl⟩ (fun hHeld => ?_)
                  clear hK K
                  refine norm_ (a' := ?_) ?_ ?_
                  rotate_left
                  · show Act.put _ (some 61) _ = _
                    simp only [Act.put, List.setIfInBounds_toArray, List.set_cons_zero, List.set_cons_succ]
                    rfl
                  exact norm_ (by simp only [putAll, Act.put, List.setIfInBounds_toArray, List.set_cons_zero, List.set_cons_succ]; first | done | rfl) (hCont ((.slice (some ⟨a1, 0, none⟩) 1 1, .slice A5 (ns.length + 1) c5'), (.slice (some ⟨a2, 0, none⟩) 1 1, .slice A6 (ks.length + 1) c6)) _ ⟨_, _, rfl, HQ.out⟩)
                · skip
                  go_simp
                  have hal := below_alloc (Below.refl _ wc) (.cells #[.int .i64 kid.f0, .bool kid.f1, .slice q2 kid.f2.length d2, .slice q3 kid.f3.length d3, .slice q4 kid.f4.length d4] 26)
                  obtain ⟨a2, ha2⟩ : ∃ q, wc.heap.size = q := ⟨_, rfl⟩
                  have HA2 := Aside0.mk (heap_alloc_new wc (.cells #[.int .i64 kid.f0, .bool kid.f1, .slice q2 kid.f2.length d2, .slice q3 kid.f3.length d3, .slice q4 kid.f4.length d4] 26))
                  have HQ := Aside0.mk (HQ.out.below hal)
                  have HKB := Aside0.mk (blk_alloc HKB.out (.cells #[.int .i64 kid.f0, .bool kid.f1, .slice q2 kid.f2.length d2, .slice q3 kid.f3.length d3, .slice q4 kid.f4.length d4] 26))
                  have HA1 := Aside0.mk (blk_alloc HA1.out (.cells #[.int .i64 kid.f0, .bool kid.f1, .slice q2 kid.f2.length d2, .slice q3 kid.f3.length d3, .slice q4 kid.f4.length d4] 26))
                  have HN2 : Aside0 (w9.heap.size ≤ a2) := ⟨by rw [← ha2]; exact HSZ.out⟩
                  have HSZ : Aside0 (w9.heap.size ≤ (wc.alloc (.cells #[.int .i64 kid.f0, .bool kid.f1, .slice q2 kid.f2.length d2, .slice q3 kid.f3.length d3, .slice q4 kid.f4.length d4] 26)).heap.size) := ⟨Nat.le_trans HSZ.out hal.size⟩
                  rw [ha2] at HA2 ⊢
                  clear ha2 hal
                  generalize wc.alloc (.cells #[.int .i64 kid.f0, .bool kid.f1, .slice q2 kid.f2.length d2, .slice q3 kid.f3.length d3, .slice q4 kid.f4.length d4] 26) = wc at *
                  refine hK.out _ _ ⟨(blk_cell HQ.out.bx 3).trans rfl, (blk_cell HQ.out.bx 4).trans rfl, (blk_cell HKB.out 0).trans rfl, (blk_cell HKB.out 1).trans rfl, (blk_cell HKB.out 2).trans rfl, (blk_cell HKB.out 3).trans rfl, (blk_cell HKB.out 4).trans rfl⟩ (fun hHeld => ?_)
                  clear hK K
                  refine one_ (i := 8) (N := some 54) #[true, true, true, true, true, true, true, true, true, true, true, true, true, true, true, false, false, false, false, false, false, false] rfl rfl (by kernel_rfl) (by decide) (fun K hK => ?_)
                  refine Kd.R_append_rows_step Kd.string (w0 := wc) (Rr := fun q c => c = [.string q]) w.heap.size (by rfl) (.tmp 51) (.tmp 53) 23 9 (.string ByteArray.empty) 16 rfl Try.underlying23 info9 rfl (by decide) (by omega) (.slice A3 ns.length c3) ns [nm] (some ⟨a1, 0, none⟩) 1 1 (fun _ => True) (fun _ => False) rfl rfl HQ.out.rn (row1 HA1.out) (fun q c h => by rw [h]; rfl) (fun _ hk => hk.elim) (fun _ _ => trivial) (Below.refl _ _) HQ.out.kp.1 (by omega) ?_
                  intro v5 w5 hr5 hb5 hg5 hat5
                  have hkg : ∀ k : Nat, w9.heap.size ≤ k → some k ≠ (Value.slice A3 ns.length c3).ownBlock := fun k hk he => by have := HO3.out k he.symm; omega
                  have HKB := Aside0.mk ((hg5.block _ (blk_lt HKB.out) (fun he => HKN.out.1 he.symm)).trans HKB.out)
                  have HA2 := Aside0.mk ((hg5.block _ (blk_lt HA2.out) (hkg _ HN2.out)).trans HA2.out)
                  have HQ := Aside0.mk (HQ.out.app3 H00.out hr5 hg5 hat5)
                  have HSZ := Aside0.mk (Nat.le_trans HSZ.out hg5.size)
                  obtain ⟨A5, c5', rfl⟩ := Kd.R_slice hr5
                  rw [LEN3.out] at HQ ⊢
                  clear hr5 hb5 hg5 hat5 hkg
                  generalize w5 = wc at *
                  refine hK.out _ _ ⟨(blk_cell HQ.out.bx 3).trans rfl, (blk_cell HQ.out.bx 4).trans rfl, (blk_cell HKB.out 0).trans rfl, (blk_cell HKB.out 1).trans rfl, (blk_cell HKB.out 2).trans rfl, (blk_cell HKB.out 3).trans rfl, (blk_cell HKB.out 4).trans rfl⟩ (fun hHeld => ?_)
                  clear hK K
                  refine norm_ (a' := ?_) ?_ ?_
                  rotate_left
                  · show Act.put _ (some 54) _ = _
                    simp only [Act.put, List.setIfInBounds_toArray, List.set_cons_zero, List.set_cons_succ]
                    rfl
                  refine one_ (i := 15) (N := some 61) #[true, true, true, true, true, true, true, true, true, true, true, true, true, true, true, true, false, false, false, false, false, false] rfl rfl (by kernel_rfl) (by decide) (fun K hK => ?_)
                  refine Kd.R_append_rows_step k26 (w0 := wc) (Rr := fun q c => q = kid ∧ c = [.int .i64 kid.f0, .bool kid.f1, .slice q2 kid.f2.length d2, .slice q3 kid.f3.length d3, .slice q4 kid.f4.length d4]) w.heap.size (by rfl) (.tmp 58) (.tmp 60) 24 26 (.agg #[.int .i64 0, .bool false, .slice none 0 0, .slice none 0 0, .slice none 0 0]) 88 rfl Try.underlying24 info26 rfl (by decide) (by omega) (.slice A4 ks.length c4) ks [kid] (some ⟨a2, 0, none⟩) 1 1 _ (fun k => w6.heap.size ≤ k ∧ k < wb.heap.size) rfl rfl HQ.out.rk (row5 HA2.out) (fun q c h => by rw [h.1, h.2]; exact k26.M_lower HQ.out.lw HQ.out.km) (fun k hk => ⟨fun he => by have := HQ.out.l3 k he.symm; omega, fun he => by have := HQ.out.l4 k he.symm; omega⟩) (fun k hk he => by have := R_own HQ.out.rn k he.symm; omega) (Below.refl _ _) HQ.out.kp.1 (by omega) ?_
                  intro v6 w8 hr6 hb6 hg6 hat6
                  have hkg : ∀ k : Nat, w9.heap.size ≤ k → some k ≠ (Value.slice A4 ks.length c4).ownBlock := fun k hk he => by have := HO4.out k he.symm; omega
                  have HKB := Aside0.mk ((hg6.block _ (blk_lt HKB.out) (fun he => HKN.out.2 he.symm)).trans HKB.out)
                  have HQ := Aside0.mk (HQ.out.app4 H00.out hr6 hg6 hat6)
                  obtain ⟨A6, c6, rfl⟩ := Kd.R_slice hr6
                  rw [LEN4.out] at HQ ⊢
                  clear hr6 hb6 hg6 hat6 hkg
                  refine hK.out _ _ ⟨(blk_cell HQ.out.bx 3).trans rfl, (blk_cell HQ.out.bx 4).trans rfl, (blk_cell HKB.out 0).trans rfl, (blk_cell HKB.out 1).trans rfl, (blk_cell HKB.out 2).trans rfl, (blk_cell HKB.out 3).trans rfl, (blk_cell HKB.out 4).trans rfl⟩ (fun hHeld => ?_)
                  clear hK K
                  refine norm_ (a' := ?_) ?_ ?_
                  rotate_left
                  · show Act.put _ (some 61) _ = _
                    simp only [Act.put, List.setIfInBounds_toArray, List.set_cons_zero, List.set_cons_succ]
                    rfl
                  exact norm_ (by simp only [putAll, Act.put, List.setIfInBounds_toArray, List.set_cons_zero, List.set_cons_succ]; first | done | rfl) (hCont ((.slice (some ⟨a1, 0, none⟩) 1 1, .slice A5 (ns.length + 1) c5'), (.slice (some ⟨a2, 0, none⟩) 1 1, .slice A6 (ks.length + 1) c6)) _ ⟨_, _, rfl, HQ.out⟩)
              · skip
                go_simp
                have hal := below_alloc (Below.refl _ wc) (.cells #[.int .i64 kid.f0, .bool kid.f1, .slice q2 kid.f2.length d2, .slice q3 kid.f3.length d3, .slice q4 kid.f4.length d4] 26)
                obtain ⟨a2, ha2⟩ : ∃ q, wc.heap.size = q := ⟨_, rfl⟩
                have HA2 := Aside0.mk (heap_alloc_new wc (.cells #[.int .i64 kid.f0, .bool kid.f1, .slice q2 kid.f2.length d2, .slice q3 kid.f3.length d3, .slice q4 kid.f4.length d4] 26))
                have HQ := Aside0.mk (HQ.out.below hal)
                have HKB := Aside0.mk (blk_alloc HKB.out (.cells #[.int .i64 kid.f0, .bool kid.f1, .slice q2 kid.f2.length d2, .slice q3 kid.f3.length d3, .slice q4 kid.f4.length d4] 26))
                have HN2 : Aside0 (w9.heap.size ≤ a2) := ⟨by rw [← ha2]; exact HSZ.out⟩
                have HSZ : Aside0 (w9.heap.size ≤ (wc.alloc (.cells #[.int .i64 kid.f0, .bool kid.f1, .slice q2 kid.f2.length d2, .slice q3 kid.f3.length d3, .slice q4 kid.f4.length d4] 26)).heap.size) := ⟨Nat.le_trans HSZ.out hal.size⟩
                rw [ha2] at HA2 ⊢
                clear ha2 hal
                generalize wc.alloc (.cells #[.int .i64 kid.f0, .bool kid.f1, .slice q2 kid.f2.length d2, .slice q3 kid.f3.length d3, .slice q4 kid.f4.length d4] 26) = wc at *
                refine hK.out _ _ ⟨(blk_cell HQ.out.bx 3).trans rfl, (blk_cell HQ.out.bx 4).trans rfl, (blk_cell HKB.out 0).trans rfl, (blk_cell HKB.out 1).trans rfl, (blk_cell HKB.out 2).trans rfl, (blk_cell HKB.out 3).trans rfl, (blk_cell HKB.out 4).trans rfl⟩ (fun hHeld => ?_)
                clear hK K
                refine one_ (i := 7) (N := some 53) #[true, true, true, true, true, true, true, true, false, true, true, true, true, true, true, false, false, false, false, false, false, false] rfl rfl (by kernel_rfl) (by decide) (fun K hK => ?_)
                go_simp
                have hal := below_alloc (Below.refl _ wc) (.cells #[.string nm] 9)
                obtain ⟨a1, ha1⟩ : ∃ q, wc.heap.size = q := ⟨_, rfl⟩
                have HA1 := Aside0.mk (heap_alloc_new wc (.cells #[.string nm] 9))
                have HQ := Aside0.mk (HQ.out.below hal)
                have HKB := Aside0.mk (blk_alloc HKB.out (.cells #[.string nm] 9))
                have HA2 := Aside0.mk (blk_alloc HA2.out (.cells #[.string nm] 9))
                have HN1 : Aside0 (w9.heap.size ≤ a1) := ⟨by rw [← ha1]; exact HSZ.out⟩
                have HSZ : Aside0 (w9.heap.size ≤ (wc.alloc (.cells #[.string nm] 9)).heap.size) := ⟨Nat.le_trans HSZ.out hal.size⟩
                rw [ha1] at HA1 ⊢
                clear ha1 hal
                generalize wc.alloc (.cells #[.string nm] 9) = wc at *
                refine hK.out _ _ ⟨(blk_cell HQ.out.bx 3).trans rfl, (blk_cell HQ.out.bx 4).trans rfl, (blk_cell HKB.out 0).trans rfl, (blk_cell HKB.out 1).trans rfl, (blk_cell HKB.out 2).trans rfl, (blk_cell HKB.out 3).trans rfl, (blk_cell HKB.out 4).trans rfl⟩ (fun hHeld => ?_)
                clear hK K
                refine one_ (i := 8) (N := some 54) #[true, true, true, true, true, true, true, true, true, true, true, true, true, true, true, false, false, false, false, false, false, false] rfl rfl (by kernel_rfl) (by decide) (fun K hK => ?_)
                refine Kd.R_append_rows_step Kd.string (w0 := wc) (Rr := fun q c => c = [.string q]) w.heap.size (by rfl) (.tmp 51) (.tmp 53) 23 9 (.string ByteArray.empty) 16 rfl Try.underlying23 info9 rfl (by decide) (by omega) (.slice A3 ns.length c3) ns [nm] (some ⟨a1, 0, none⟩) 1 1 (fun _ => True) (fun _ => False) rfl rfl HQ.out.rn (row1 HA1.out) (fun q c h => by rw [h]; rfl) (fun _ hk => hk.elim) (fun _ _ => trivial) (Below.refl _ _) HQ.out.kp.1 (by omega) ?_
                intro v5 w5 hr5 hb5 hg5 hat5
                have hkg : ∀ k : Nat, w9.heap.size ≤ k → some k ≠ (Value.slice A3 ns.length c3).ownBlock := fun k hk he => by have := HO3.out k he.symm; omega
                have HKB := Aside0.mk ((hg5.block _ (blk_lt HKB.out) (fun he => HKN.out.1 he.symm)).trans HKB.out)
                have HA2 := Aside0.mk ((hg5.block _ (blk_lt HA2.out) (hkg _ HN2.out)).trans HA2.out)
                have HQ := Aside0.mk (HQ.out.app3 H00.out hr5 hg5 hat5)
                have HSZ := Aside0.mk (Nat.le_trans HSZ.out hg5.size)
                obtain ⟨A5, c5', rfl⟩ := Kd.R_slice hr5
                rw [LEN3.out] at HQ ⊢
                clear hr5 hb5 hg5 hat5 hkg
                generalize w5 = wc at *
                refine hK.out _ _ ⟨(blk_cell HQ.out.bx 3).trans rfl, (blk_cell HQ.out.bx 4).trans rfl, (blk_cell HKB.out 0).trans rfl, (blk_cell HKB.out 1).trans rfl, (blk_cell HKB.out 2).trans rfl, (blk_cell HKB.out 3).trans rfl, (blk_cell HKB.out 4).trans rfl⟩ (fun hHeld => ?_)
                clear hK K
                refine norm_ (a' := ?_) ?_ ?_
                rotate_left
                · show Act.put _ (some 54) _ = _
                  simp only [Act.put, List.setIfInBounds_toArray, List.set_cons_zero, List.set_cons_succ]
                  rfl
                refine one_ (i := 15) (N := some 61) #[true, true, true, true, true, true, true, true, true, true, true, true, true, true, true, true, false, false, false, false, false, false] rfl rfl (by kernel_rfl) (by decide) (fun K hK => ?_)
                refine Kd.R_append_rows_step k26 (w0 := wc) (Rr := fun q c => q = kid ∧ c = [.int .i64 kid.f0, .bool kid.f1, .slice q2 kid.f2.length d2, .slice q3 kid.f3.length d3, .slice q4 kid.f4.length d4]) w.heap.size (by rfl) (.tmp 58) (.tmp 60) 24 26 (.agg #[.int .i64 0, .bool false, .slice none 0 0, .slice none 0 0, .slice none 0 0]) 88 rfl Try.underlying24 info26 rfl (by decide) (by omega) (.slice A4 ks.length c4) ks [kid] (some ⟨a2, 0, none⟩) 1 1 _ (fun k => w6.heap.size ≤ k ∧ k < wb.heap.size) rfl rfl HQ.out.rk (row5 HA2.out) (fun q c h => by rw [h.1, h.2]; exact k26.M_lower HQ.out.lw HQ.out.km) (fun k hk => ⟨fun he => by have := HQ.out.l3 k he.symm; omega, fun he => by have := HQ.out.l4 k he.symm; omega⟩) (fun k hk he => by have := R_own HQ.out.rn k he.symm; omega) (Below.refl _ _) HQ.out.kp.1 (by omega) ?_
                intro v6 w8 hr6 hb6 hg6 hat6
                have hkg : ∀ k : Nat, w9.heap.size ≤ k → some k ≠ (Value.slice A4 ks.length c4).ownBlock := fun k hk he => by have := HO4.out k he.symm; omega
                have HKB := Aside0.mk ((hg6.block _ (blk_lt HKB.out) (fun he => HKN.out.2 he.symm)).trans HKB.out)
                have HQ := Aside0.mk (HQ.out.app4 H00.out hr6 hg6 hat6)
                obtain ⟨A6, c6, rfl⟩ := Kd.R_slice hr6
                rw [LEN4.out] at HQ ⊢
                clear hr6 hb6 hg6 hat6 hkg
                refine hK.out _ _ ⟨(blk_cell HQ.out.bx 3).trans rfl, (blk_cell HQ.out.bx 4).trans rfl, (blk_cell HKB.out 0).trans rfl, (blk_cell HKB.out 1).trans rfl, (blk_cell HKB.out 2).trans rfl, (blk_cell HKB.out 3).trans rfl, (blk_cell HKB.out 4).trans rfl⟩ (fun hHeld => ?_)
                clear hK K
                refine norm_ (a' := ?_) ?_ ?_
                rotate_left
                · show Act.put _ (some 61) _ = _
                  simp only [Act.put, List.setIfInBounds_toArray, List.set_cons_zero, List.set_cons_succ]
                  rfl
                exact norm_ (by simp only [putAll, Act.put, List.setIfInBounds_toArray, List.set_cons_zero, List.set_cons_succ]; first | done | rfl) (hCont ((.slice (some ⟨a1, 0, none⟩) 1 1, .slice A5 (ns.length + 1) c5'), (.slice (some ⟨a2, 0, none⟩) 1 1, .slice A6 (ks.length + 1) c6)) _ ⟨_, _, rfl, HQ.out⟩)
            rintro ⟨⟨r1, r5⟩, ⟨r2, r6⟩⟩ wd ⟨q5, q6, he, hq⟩
            obtain ⟨rfl, rfl⟩ := Prod.mk.inj he
            simp only at hq
            clear HQ HKB HSZ hHeld
            have HQ := Aside0.mk hq
            obtain ⟨A5, c5', rfl⟩ := Kd.R_slice hq.rn
            obtain ⟨A6, c6, rfl⟩ := Kd.R_slice hq.rk
            have e5 : (ns ++ [nm]).length = ns.length + 1 := by simp
            have e6 : (ks ++ [kid]).length = ks.length + 1 := by simp
            rw [e5, e6] at HQ ⊢
            clear hq he wc e5 e6
            refine norm_ (a' := ?_) (by simp only [putAll, Act.put, List.setIfInBounds_toArray, List.set_cons_zero, List.set_cons_succ]; rfl) ?_
            refine pure_ (i := 16) (N := some 62) (v := ?_) (a' := ?_) #[true, true, true, true, true, true, true, true, true, true, true, true, true, true, true, true, true, false, false, false, false, false] rfl rfl (by kernel_rfl) (fun _ _ _ h => h) (Or.inl ⟨by rfl, ?_⟩) ?_ ?_
            rotate_left
            · intro w'
              go_simp
              with_reducible rfl
            rotate_left
            · simp only [Act.put, List.setIfInBounds_toArray, List.set_cons_zero, List.set_cons_succ]
              rfl
            refine pure_ (i := 17) (N := some 63) (v := ?_) (a' := ?_) #[true, true, true, true, true, true, true, true, true, true, true, true, true, true, true, true, true, true, false, false, false, false] rfl rfl (by kernel_rfl) (fun _ _ _ h => h) (Or.inl ⟨by rfl, ?_⟩) ?_ ?_
            rotate_left
            · intro w'
              go_simp
              with_reducible rfl
            rotate_left
            · simp only [Act.put, List.setIfInBounds_toArray, List.set_cons_zero, List.set_cons_succ]
              rfl
            refine last_ (i := 18) (N := none) #[true, true, true, true, true, true, true, true, true, true, true, true, true, true, true, true, true, true, true, false, false, false] rfl rfl (by kernel_rfl) (by decide) (fun K hK => ?_)
            have hp3 : wd.cell? ⟨p, 3, none⟩ = some (.slice A3 ns.length c3) := (blk_cell HQ.out.bx 3).trans rfl
            have hf3 : wd.frozen? ⟨p, 3, none⟩ = false := blk_frozen HQ.out.bx 3
            go_simp
            clear hp3 hf3
            refine hK.out _ _ ?_
            clear hK K
            have HB4 := Aside0.mk (blk_set HQ.out.bx 3 (.slice A5 (ns.length + 1) c5'))
            refine pure_ (i := 19) (N := some 64) (v := ?_) (a' := ?_) #[true, true, true, true, true, true, true, true, true, true, true, true, true, true, true, true, true, true, true, true, false, false] rfl rfl (by kernel_rfl) (fun _ _ _ h => h) (Or.inl ⟨by rfl, ?_⟩) ?_ ?_
            rotate_left
            · intro w'
              go_simp
              with_reducible rfl
            rotate_left
            · simp only [Act.put, List.setIfInBounds_toArray, List.set_cons_zero, List.set_cons_succ]
              rfl
            refine pure_ (i := 20) (N := some 65) (v := ?_) (a' := ?_) #[true, true, true, true, true, true, true, true, true, true, true, true, true, true, true, true, true, true, true, true, true, false] rfl rfl (by kernel_rfl) (fun _ _ _ h => h) (Or.inl ⟨by rfl, ?_⟩) ?_ ?_
            rotate_left
            · intro w'
              go_simp
              with_reducible rfl
            rotate_left
            · simp only [Act.put, List.setIfInBounds_toArray, List.set_cons_zero, List.set_cons_succ]
              rfl
            refine last_ (i := 21) (N := none) #[true, true, true, true, true, true, true, true, true, true, true, true, true, true, true, true, true, true, true, true, true, true] rfl rfl (by kernel_rfl) (by decide) (fun K hK => ?_)
            have hp4 : (wd.setCell ⟨p, 3, none⟩ (.slice A5 (ns.length + 1) c5')).cell? ⟨p, 4, none⟩ = some (.slice A4 ks.length c4) := (blk_cell HB4.out 4).trans rfl
            have hf4 : (wd.setCell ⟨p, 3, none⟩ (.slice A5 (ns.length + 1) c5')).frozen? ⟨p, 4, none⟩ = false := blk_frozen HB4.out 4
            go_simp
            clear hp4 hf4
            refine hK.out _ _ ?_
            clear hK K
            refine done_ (by kernel_rfl) ?_
            have HEND := Aside0.mk (HQ.out.shut HW0.out.2)
            clear HQ HB4
            generalize ((wd.setCell ⟨p, 3, none⟩ (.slice A5 (ns.length + 1) c5')).setCell ⟨p, 4, none⟩ (.slice A6 (ks.length + 1) c6)) = we at *
            go_wp2_with fail
            refine ⟨⟨s9, n7, L, ns ++ [nm], ks ++ [kid], _, _, HEND, by omega, by simp; omega, by simp [HKS.out], by omega, ⟨HT2.out.symm⟩, ⟨⟨fun x hx => ?_, fun x hx => ?_⟩⟩⟩, ?_⟩
            · rcases List.mem_append.1 hx with hx | hx
              · exact HG.out.1 x hx
              · simp at hx; subst hx; omega
            · rcases List.mem_append.1 hx with hx | hx
              · exact HG.out.2 x hx
              · simp at hx; subst hx; exact HG7.out
            · rw [HEND.out.rd.rest, HRL.out]; omega
          · have e2 : (y.toList == [101, 110, 116, 114, 121]) = false := by simpa using fun h => hE (hsE.1 h)
            have HTT : Aside0 (T = ((ns, ks), flS s2 3, n')) := ⟨by rw [HEQ.out, if_neg (fun h => h.elim (fun h => h hq) hR), if_pos hE]⟩
            clear hsR hsE hfall HEQ hR hE
            go_wp2_with fail
            refine (fail_any w0 w2 g s2 n' 3 HEN2.out.rd).mono ?_
            rintro e_ w3 ⟨rfl, hr3, hk3⟩
            have HEN3 := Aside0.mk (HEN2.out.keep hr3 hk3)
            clear hr3 hk3
            go_wp2_with fail
            exact bodyPost_ret (v := .tuple #[]) (by simp [results, Try.results68, go_sem]) rfl ⟨rfl, FIN.out HTT.out HEN3.out⟩
      · have hne2 : (s2.2 != 0) = true := by simpa using hq
        have HTT : Aside0 (T = ((ns, ks), s2, n')) := ⟨by rw [HEQ.out, if_pos (.inl hq)]⟩
        clear hsR hsE hfall HEQ
        go_wp2_with fail
        exact bodyPost_ret (v := .tuple #[]) (by simp [results, Try.results68, go_sem]) rfl ⟨rfl, FIN.out HTT.out HEN2.out⟩
    · have hne : (s'.2 == 0) = false := by simpa using h0
      have HTT : Aside0 (T = ((ns, ks), s', n')) := ⟨by rw [← HT.out, entS, if_pos h0]⟩
      go_wp2_with fail
      exact bodyPost_end (v := .tuple #[]) (by simp [results, Try.results68, go_sem]) rfl ⟨rfl, FIN.out HTT.out HEN.out⟩
end Go.Proofs.Ythhajkmeadapgaa.Tree
