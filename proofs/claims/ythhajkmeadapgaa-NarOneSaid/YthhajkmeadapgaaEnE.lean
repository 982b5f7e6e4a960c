/- nar: all, Encode. Own work. -/
import Derived.Test.YthhajkmeadapgaaEnD
namespace Go.Proofs.Ythhajkmeadapgaa.Tree
set_option linter.unusedVariables false
set_option linter.unusedSimpArgs false
open Go.RowKit Go.Proofs.Ythhajkmeadapgaa.PL Go.Proofs.Ythhajkmeadapgaa.Mn Go.Proofs.YthhajkmeadapgaaW.PrintWords Go.Proofs.YthhajkmeadapgaaW.PrintLast Go.Proofs.YthhajkmeadapgaaW.PrintMore
def allB (N : Nat) (t : S26) : List Int := tx sMagic ++ nodeB N t
set_option maxRecDepth 20000 in
set_option maxHeartbeats 1000000 in
theorem all_any {F : Nat} {cap : Value} {I : (Nat → Prop) → List Int → World → Prop} (hP : Puts F cap I) (w0 : World) (N : Nat) (t : S26) (A2 : Option Addr) (c2 : Nat) (A3 : Option Addr) (c3 : Nat) (A4 : Option Addr) (c4 : Nat) (S : Nat → Prop) (l : List Int) (w : World)
    (h : TR w0 t A2 c2 A3 c3 A4 c4) (hG : GT N t) (hO : Okt N t) (hI : I S l w) (hB : Below w0.heap.size w0 w) (hS : ∀ i, S i → w0.heap.size ≤ i) (hl : l.length + (allB N t).length ≤ 140737488355328) :
    Calls Try.prog 29 #[.func (.func F) #[] #[cap], TV t A2 c2 A3 c3 A4 c4] w (Put I S (l ++ allB N t) w) := by
  have HP := Aside0.mk hP
  have HT := Aside0.mk (And.intro h (And.intro hG hO))
  have hb := below_alloc (Below.refl w.heap.size w) (.cells #[.int .i64 t.f0, .bool t.f1, .slice A2 t.f2.length c2, .slice A3 t.f3.length c3, .slice A4 t.f4.length c4] 26)
  have HX1 := Aside0.mk (heap_alloc_new w (.cells #[.int .i64 t.f0, .bool t.f1, .slice A2 t.f2.length c2, .slice A3 t.f3.length c3, .slice A4 t.f4.length c4] 26))
  have HI1 := Aside0.mk (hP.below hI hb)
  have HNX : Aside0 (¬ S w.heap.size) := ⟨fun hs => by have := hP.lt _ _ _ hI _ hs; omega⟩
  have HB1 := Aside0.mk (below_weaken hB hB.size hb)
  have HK1 := Aside0.mk (Kb.of_below (S := S) hb)
  have HS := Aside0.mk hS
  have HL := Aside0.mk hl
  clear h hG hO hI hB hS hl
  go_enter Try.func29, Try.ntmps29
  go_upto_region 1 with fail
  generalize (w.alloc (.cells #[.int .i64 t.f0, .bool t.f1, .slice A2 t.f2.length c2, .slice A3 t.f3.length c3, .slice A4 t.f4.length c4] 26)) = w1 at *
  obtain ⟨p, hp9⟩ : ∃ q, w.heap.size = q := ⟨_, rfl⟩
  have HP9 : Aside0 (p = w.heap.size) := ⟨hp9.symm⟩
  rw [hp9] at HX1 HNX ⊢
  clear hp9
  go_wp2_with fail
  refine (lay_any HP.out S l sMagic w1 HI1.out (by decide) (by have := HL.out; unfold allB at this; rw [List.length_append] at this; omega)).mono ?_
  rintro e_ w2 ⟨rfl, S2, hI2, hk2, hs2⟩
  have HX2 := Aside0.mk (hk2.blk HX1.out HNX.out)
  have HI2 := Aside0.mk hI2
  have HK2 := Aside0.mk (HK1.out.then_ hk2 (fun i hi => .inl hi))
  have HB2 := Aside0.mk (below_weaken HB1.out (Nat.le_refl _) (hk2.below HB1.out.size HS.out))
  have HS2 : Aside0 (∀ i, S2 i → S i ∨ w1.heap.size ≤ i) := ⟨hs2⟩
  have HLO : Aside0 (∀ i, S2 i → w0.heap.size ≤ i) := ⟨fun i hi => (hs2 i hi).elim (HS.out i) (fun g => by have := HB1.out.size; omega)⟩
  obtain ⟨e0, e1, e2, e3, e4⟩ := cells5 HX2.out
  have hs2' : ∀ i, S2 i → S i ∨ w.heap.size ≤ i := fun i hi => (hs2 i hi).imp id (fun g => by have := blk_lt HX1.out; have := HP9.out; omega)
  clear hI2 hk2 hs2 hb
  go_wp2_with fail
  refine (node_full HP.out w0 N t A2 c2 A3 c3 A4 c4 S2 _ w2 HT.out.1 HT.out.2.1 HT.out.2.2 HI2.out HB2.out HLO.out (by have := HL.out; unfold allB at this; rw [List.length_append] at this ⊢; omega)).mono ?_
  rintro e_ w3 ⟨rfl, S3, hI3, hk3, hs3⟩
  have HI3 : Aside0 (I S3 (l ++ allB N t) w3) := ⟨by unfold allB; rw [← List.append_assoc]; exact hI3⟩
  have HK3 := Aside0.mk (HK2.out.then_ hk3 (fun i hi => (hs2' i hi)))
  have HS3 : Aside0 (∀ k, S3 k → S k ∨ w.heap.size ≤ k) := ⟨fun k hk => (hs3 k hk).elim (hs2' k) (fun h => .inr (by have := HK2.out.1.size; omega))⟩
  clear hI3 hk3 hs3 e0 e1 e2 e3 e4
  go_wp2_with fail
  exact bodyPost_ret (v := .tuple #[]) (by simp [results, Try.results29, go_sem]) rfl ⟨rfl, S3, HI3.out, HK3.out, HS3.out⟩
/-- a slice that lies in a cell, and grows -/
def EI (g : Nat) (S : Nat → Prop) (l : List Int) (w : World) : Prop := ∃ v, w.heap[g]? = some (.cells #[v] 22 (0, 0)) ∧ w.ownsRow 0 5 1 v l.length (nums .u8 l) ∧ v.ownBlock ≠ some g ∧ ∀ k, S k ↔ (k = g ∨ v.ownBlock = some k)
theorem own_step {w w' : World} {e : TypeId} {v : Value} {n : Nat} {xs : List Value} (h : w.ownsRow 0 e 1 v n xs) (hs : ∀ k, v.ownBlock = some k → w'.heap[k]? = w.heap[k]?) : w'.ownsRow 0 e 1 v n xs := by
  refine ⟨h.1, h.2.imp id ?_⟩
  rintro ⟨g, cap, cur, rfl, h0, h1, h2⟩
  exact ⟨g, cap, cur, rfl, h0, (hs g rfl).trans h1, h2⟩
set_option maxRecDepth 20000 in
set_option maxHeartbeats 1000000 in
theorem enc_put (g : Nat) (S : Nat → Prop) (l x : List Int) (A : Option Addr) (c : Nat) (w : World) (h : EI g S l w) (hC : (Kd.int .u8).C w A x.length x) (hl : l.length + x.length ≤ 140737488355328) :
    Calls Try.prog 30 #[.slice A x.length c, .pointer (some ⟨g, 0, none⟩)] w (Put (EI g) S (l ++ x) w) := by
  obtain ⟨v, hg, ho, hne, hS⟩ := h
  obtain ⟨Av, cv, rfl⟩ := own_slice ho
  have cell0 : w.cell? ⟨g, 0, none⟩ = some (.slice Av l.length cv) := (blk_cell hg 0).trans rfl
  have HG := Aside0.mk hg
  have HO := Aside0.mk ho
  have HNE := Aside0.mk hne
  have HSS := Aside0.mk hS
  have HR := Aside0.mk (Kd.reads_of_C (enc := Value.int .u8) (d := (0 : Int)) (h1 := fun _ => rfl) hC)
  have hlt : ∀ k, (Value.slice Av l.length cv).ownBlock = some k → k < w.heap.size := fun k hk => own_lt ho k hk
  have HLT := Aside0.mk hlt
  have HGL := Aside0.mk (blk_lt hg)
  clear hg ho hne hS hlt
  go_enter Try.func30, Try.ntmps30
  go_wp2_with (refine print_append_row (w0 := w) 0 rfl (.tmp 3) (.tmp 4) 22 5 .u8 1 rfl Try.underlying22 info5 (by decide) (.slice Av l.length cv) l x A x.length c rfl rfl HO.out HR.out (Below.refl 0 w) (Nat.zero_le _) (by omega) ?_; intro v1 w1 hown hb hgr hat; obtain ⟨A1, cv1, rfl⟩ := own_slice hown; have hg1 := (hgr.block g HGL.out (fun e => HNE.out e.symm)).trans HG.out; have cellg : w1.cell? ⟨g, 0, none⟩ = some (.slice Av l.length cv) := (blk_cell hg1 0).trans rfl; have frg : w1.frozen? ⟨g, 0, none⟩ = false := blk_frozen hg1 0; have HG1 := Aside0.mk hg1; have HW1 := Aside0.mk (And.intro hown (And.intro hb (And.intro hgr hat))); clear hown hb hgr hat hg1)
  obtain ⟨hown, hb, hgr, hat⟩ := HW1.out
  rw [List.length_append] at hown
  have hne1 : (Value.slice A1 (l.length + x.length) cv1).ownBlock ≠ some g := by
    rcases hat with h | ⟨b, h, hbb⟩
    · intro he; exact HNE.out (h.symm.trans (by simpa [Value.ownBlock] using he))
    · intro he
      have := HGL.out
      have h2 : (Value.slice A1 (l ++ x).length cv1).ownBlock = some g := by simpa [Value.ownBlock] using he
      rw [h] at h2
      injection h2 with h2
      omega
  refine bodyPost_ret (v := .tuple #[]) (by simp [results, Try.results30, go_sem]) rfl ⟨rfl, fun k => k = g ∨ (Value.slice A1 (l.length + x.length) cv1).ownBlock = some k, ⟨_, by simpa using blk_set HG1.out 0 (.slice A1 (l.length + x.length) cv1), ?_, hne1, fun k => Iff.rfl⟩, ⟨hb.setCell (Nat.zero_le _) _, ?_⟩, ?_⟩
  · rw [List.length_append]
    exact own_step hown (fun k hk => Below.heap_setCell w1 _ _ k (fun he => hne1 (hk.trans (congrArg some he))))
  · intro k hk hn
    have h1 : k ≠ g := fun he => hn ((HSS.out k).2 (.inl he))
    rw [Below.heap_setCell w1 ⟨g, 0, none⟩ _ k h1]
    exact hgr.block k hk (fun he => hn ((HSS.out k).2 (.inr he.symm)))
  · rintro k (rfl | hk)
    · exact .inl ((HSS.out _).2 (.inl rfl))
    · rcases hat with h | ⟨b, h, hbb⟩
      · exact .inl ((HSS.out k).2 (.inr (h.symm.trans (by simpa [Value.ownBlock] using hk))))
      · refine .inr ?_
        have h2 : (Value.slice A1 (l ++ x).length cv1).ownBlock = some k := by simpa [Value.ownBlock] using hk
        rw [h] at h2
        injection h2 with h2
        omega
theorem enc_puts (g : Nat) : Puts 30 (.pointer (some ⟨g, 0, none⟩)) (EI g) where
  call S l x A c w hI hC _ _ hl := enc_put g S l x A c w hI hC hl
  run args w := by simp [callFunc, go_sem]; rfl
  lt S l w h k hk := by
    obtain ⟨v, hg, ho, _, hS⟩ := h
    rcases (hS k).1 hk with rfl | hk
    · exact blk_lt hg
    · exact own_lt ho k hk
  step S l w w' h hs _ := by
    obtain ⟨v, hg, ho, hne, hS⟩ := h
    exact ⟨v, (hs g ((hS g).2 (.inl rfl))).trans hg, own_step ho (fun k hk => hs k ((hS k).2 (.inr hk))), hne, hS⟩
/-- what Encode hands back -/
noncomputable def encB (N : Nat) (t : S26) : List Int := if (chk N t 1 0).1 = 0 then allB N t else []
set_option maxRecDepth 20000 in
set_option maxHeartbeats 1000000 in
theorem Encode_any (N : Nat) (t : S26) (A2 : Option Addr) (c2 : Nat) (A3 : Option Addr) (c3 : Nat) (A4 : Option Addr) (c4 : Nat) (w : World) (h : TR w t A2 c2 A3 c3 A4 c4) (hG : GT N t) (hl : (allB N t).length ≤ 140737488355328) :
    Calls Try.prog 11 #[TV t A2 c2 A3 c3 A4 c4] w fun e w' => ∃ A c, e = .returned (.tuple #[.slice A (encB N t).length c, .int .i64 (chk N t 1 0).1]) ∧ (Kd.int .u8).R 5 w' w.heap.size (fun _ => True) (.slice A (encB N t).length c) (encB N t) ∧ Below w.heap.size w w' := by
  have HT := Aside0.mk (And.intro h hG)
  have hb := below_alloc (Below.refl w.heap.size w) (.cells #[.int .i64 t.f0, .bool t.f1, .slice A2 t.f2.length c2, .slice A3 t.f3.length c3, .slice A4 t.f4.length c4] 26)
  have HX1 := Aside0.mk (heap_alloc_new w (.cells #[.int .i64 t.f0, .bool t.f1, .slice A2 t.f2.length c2, .slice A3 t.f3.length c3, .slice A4 t.f4.length c4] 26))
  have HB1 := Aside0.mk hb
  have HTR1 := Aside0.mk (h.below hb)
  have HL := Aside0.mk hl
  clear h hb hl
  go_enter Try.func11, Try.ntmps11
  go_upto_region 1 with fail
  generalize (w.alloc (.cells #[.int .i64 t.f0, .bool t.f1, .slice A2 t.f2.length c2, .slice A3 t.f3.length c3, .slice A4 t.f4.length c4] 26)) = w1 at *
  obtain ⟨p, hp9⟩ : ∃ q, w.heap.size = q := ⟨_, rfl⟩
  rw [hp9] at HX1 ⊢
  have HP9 : Aside0 (w.heap.size = p) := ⟨hp9⟩
  clear hp9
  obtain ⟨e0, e1, e2, e3, e4⟩ := cells5 HX1.out
  go_wp2_with fail
  refine (Check_any N t A2 c2 A3 c3 A4 c4 w1 HTR1.out HT.out.2).mono ?_
  rintro e_ w2 ⟨rfl, hb2⟩
  have HX2 := Aside0.mk ((hb2.block _ (blk_lt HX1.out)).trans HX1.out)
  have HB2 := Aside0.mk (below_then HB1.out HB1.out.size hb2)
  clear e0 e1 e2 e3 e4 hb2 HX1 HTR1
  by_cases hc : (chk N t 1 0).1 = 0
  · have he : encB N t = allB N t := by unfold encB; rw [if_pos hc]
    have HC := Aside0.mk hc
    have HE := Aside0.mk he
    rw [hc]
    clear he hc
    obtain ⟨e0, e1, e2, e3, e4⟩ := cells5 HX2.out
    go_upto_region 5 with fail
    have HX3 := Aside0.mk (blk_alloc HX2.out (.cells #[.slice none 0 0] 22))
    have HB3 := Aside0.mk (below_alloc HB2.out (.cells #[.slice none 0 0] 22))
    have HEI : Aside0 (EI w2.heap.size (fun k => k = w2.heap.size) [] (w2.alloc (.cells #[.slice none 0 0] 22))) := ⟨⟨_, heap_alloc_new w2 _, own_nil _ _ _ _, by simp [Value.ownBlock], fun k => by simp [Value.ownBlock]⟩⟩
    have HGE : Aside0 (w.heap.size ≤ w2.heap.size) := ⟨HB2.out.size⟩
    generalize (w2.alloc (.cells #[.slice none 0 0] 22)) = w3 at *
    generalize w2.heap.size = g at *
    clear e0 e1 e2 e3 e4 HX2 HB2
    obtain ⟨e0, e1, e2, e3, e4⟩ := cells5 HX3.out
    go_wp2_with fail
    refine (all_any (enc_puts g) w N t A2 c2 A3 c3 A4 c4 _ [] w3 HT.out.1 HT.out.2 (chk_ok N t 1 0 HT.out.2 HC.out) HEI.out HB3.out (fun i hi => by rw [hi]; exact HGE.out) (by simpa using HL.out)).mono ?_
    rintro e_ w4 ⟨rfl, S4, hI4, hk4, hs4⟩
    have hS4 : ∀ k, S4 k → w.heap.size ≤ k := fun k hk => (hs4 k hk).elim (fun h => by have := HGE.out; omega) (fun h => by have := HB3.out.size; omega)
    have HB4 := Aside0.mk (below_weaken HB3.out (Nat.le_refl _) (hk4.below HB3.out.size (fun k hk => by rw [hk]; exact HGE.out)))
    rw [List.nil_append] at hI4
    obtain ⟨v, hg, ho, -, hS⟩ := hI4
    obtain ⟨Av, cv, rfl⟩ := own_slice ho
    have hR := Kd.R_of_own (enc := Value.int .u8) (h1 := fun _ => rfl) (ok := fun _ => True) (Kd.own_raise (b' := w.heap.size) ho (fun k hk => hS4 k ((hS k).2 (.inr hk)))) (fun _ _ => trivial)
    have cellg : w4.cell? ⟨g, 0, none⟩ = some (.slice Av (allB N t).length cv) := (blk_cell hg 0).trans rfl
    have HR := Aside0.mk hR
    clear hR hg ho hS hS4 hk4 hs4 e0 e1 e2 e3 e4
    go_wp2_with fail
    refine bodyPost_ret (v := .tuple #[.slice Av (allB N t).length cv, .int .i64 0]) (by simp [results, Try.results11, go_sem]) rfl ⟨Av, cv, by rw [HE.out, HC.out], by rw [HE.out]; exact HR.out, HB4.out⟩
  · have he : encB N t = [] := by unfold encB; rw [if_neg hc]
    have HE := Aside0.mk he
    have hc2 : ((chk N t 1 0).1 != 0) = true := by simpa using hc
    obtain ⟨r, hr⟩ : ∃ r, (chk N t 1 0).1 = r := ⟨_, rfl⟩
    have HR := Aside0.mk hr
    rw [hr] at hc2 ⊢
    clear he hc hr
    go_wp2_with fail
    refine bodyPost_ret (v := .tuple #[.slice none 0 0, .int .i64 r]) (by simp [results, Try.results11, go_sem]) rfl ⟨none, 0, by rw [HE.out, HR.out]; rfl, by rw [HE.out]; exact Kd.R_nil _ _ _ _ _, HB2.out⟩
end Go.Proofs.Ythhajkmeadapgaa.Tree
