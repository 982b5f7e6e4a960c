/- nar: all, Encode. Own work. -/
import Derived.Test.YthhajkmeadapgaaEnJ
import Derived.Test.YthhajkmeadapgaaEqA
import Derived.Lib.SlBytesConst
namespace Go.Proofs.Ythhajkmeadapgaa.Tree
set_option linter.unusedVariables false
set_option linter.unusedSimpArgs false
open Go.RowKit Go.Proofs.Ythhajkmeadapgaa.PL Go.Proofs.Ythhajkmeadapgaa.Mn Go.Proofs.YthhajkmeadapgaaW.PrintWords Go.Proofs.YthhajkmeadapgaaW.PrintLast Go.Proofs.YthhajkmeadapgaaW.PrintMore
def allB (N : Nat) (t : S26) : List Int := tx sMagic ++ nodeB N t
set_option maxRecDepth 20000 in
set_option maxHeartbeats 1000000 in
theorem all_any {F : Nat} {cap : Value} {I : (Nat → Prop) → List Int → World → Prop} (hP : Puts F cap I) (w0 : World) (N : Nat) (t : S26) (A2 : Option Addr) (c2 : Nat) (A3 : Option Addr) (c3 : Nat) (A4 : Option Addr) (c4 : Nat) (S : Nat → Prop) (l : List Int) (w : World)
    (h : TR w0 t A2 c2 A3 c3 A4 c4) (hG : GT N t) (hO : Okt N t) (hI : I S l w) (hB : Below w0.heap.size w0 w) (hS : ∀ i, S i → w0.heap.size ≤ i) (hl : l.length + (allB N t).length ≤ 140737488355328) :
    Calls Try.prog 29 #[.func (.func F) #[] #[cap], TV t A2 c2 A3 c3 A4 c4] w (Put I S (l ++ allB N t) w) := by
  have HP := Aside0.mk hP
  have HT := Aside0.mk (And.intro h (And.intro hG hO))
  have hb := below_alloc (Below.refl w.heap.size w) (.cells #[.int .i64 t.f0, .bool t.f1, .slice A2 t.f2.length c2, .slice A3 t.f3.length c3, .slice A4 t.f4.length c4] 26)
  have HX1 := Aside0.mk (heap_alloc_new w (.cells #[.int .i64 t.f0, .bool t.f1, .slice A2 t.f2.length c2, .slice A3 t.f3.length c3, .slice A4 t.f4.length c4] 26))
  have HI1 := Aside0.mk (hP.below hI hb)
  have HNX : Aside0 (¬ S w.heap.size) := ⟨fun hs => by have := hP.lt _ _ _ hI _ hs; omega⟩
  have HB1 := Aside0.mk (below_weaken hB hB.size hb)
  have HK1 := Aside0.mk (Kb.of_below (S := S) hb)
  have HS := Aside0.mk hS
  have HL := Aside0.mk hl
  clear h hG hO hI hB hS hl
  go_enter Try.func29, Try.ntmps29
  go_upto_region 1 with fail
  generalize (w.alloc (.cells #[.int .i64 t.f0, .bool t.f1, .slice A2 t.f2.length c2, .slice A3 t.f3.length c3, .slice A4 t.f4.length c4] 26)) = w1 at *
  obtain ⟨p, hp9⟩ : ∃ q, w.heap.size = q := ⟨_, rfl⟩
  have HP9 : Aside0 (p = w.heap.size) := ⟨hp9.symm⟩
  rw [hp9] at HX1 HNX ⊢
  clear hp9
  go_wp2_with fail
  refine (lay_any HP.out S l sMagic w1 HI1.out (by decide) (by have := HL.out; unfold allB at this; rw [List.length_append] at this; omega)).mono ?_
  rintro e_ w2 ⟨rfl, S2, hI2, hk2, hs2⟩
  have HX2 := Aside0.mk (hk2.blk HX1.out HNX.out)
  have HI2 := Aside0.mk hI2
  have HK2 := Aside0.mk (HK1.out.then_ hk2 (fun i hi => .inl hi))
  have HB2 := Aside0.mk (below_weaken HB1.out (Nat.le_refl _) (hk2.below HB1.out.size HS.out))
  have HS2 : Aside0 (∀ i, S2 i → S i ∨ w1.heap.size ≤ i) := ⟨hs2⟩
  have HLO : Aside0 (∀ i, S2 i → w0.heap.size ≤ i) := ⟨fun i hi => (hs2 i hi).elim (HS.out i) (fun g => by have := HB1.out.size; omega)⟩
  obtain ⟨e0, e1, e2, e3, e4⟩ := cells5 HX2.out
  have hs2' : ∀ i, S2 i → S i ∨ w.heap.size ≤ i := fun i hi => (hs2 i hi).imp id (fun g => by have := blk_lt HX1.out; have := HP9.out; omega)
  clear hI2 hk2 hs2 hb
  go_wp2_with fail
  refine (node_full HP.out w0 N t A2 c2 A3 c3 A4 c4 S2 _ w2 HT.out.1 HT.out.2.1 HT.out.2.2 HI2.out HB2.out HLO.out (by have := HL.out; unfold allB at this; rw [List.length_append] at this ⊢; omega)).mono ?_
  rintro e_ w3 ⟨rfl, S3, hI3, hk3, hs3⟩
  have HI3 : Aside0 (I S3 (l ++ allB N t) w3) := ⟨by unfold allB; rw [← List.append_assoc]; exact hI3⟩
  have HK3 := Aside0.mk (HK2.out.then_ hk3 (fun i hi => (hs2' i hi)))
  have HS3 : Aside0 (∀ k, S3 k → S k ∨ w.heap.size ≤ k) := ⟨fun k hk => (hs3 k hk).elim (hs2' k) (fun h => .inr (by have := HK2.out.1.size; omega))⟩
  clear hI3 hk3 hs3 e0 e1 e2 e3 e4
  go_wp2_with fail
  exact bodyPost_ret (v := .tuple #[]) (by simp [results, Try.results29, go_sem]) rfl ⟨rfl, S3, HI3.out, HK3.out, HS3.out⟩
/-- a slice that lies in a cell, and grows -/
def EI (g : Nat) (S : Nat → Prop) (l : List Int) (w : World) : Prop := ∃ v, w.heap[g]? = some (.cells #[v] 22 (0, 0)) ∧ w.ownsRow 0 5 1 v l.length (nums .u8 l) ∧ v.ownBlock ≠ some g ∧ ∀ k, S k ↔ (k = g ∨ v.ownBlock = some k)
theorem own_step {w w' : World} {e : TypeId} {v : Value} {n : Nat} {xs : List Value} (h : w.ownsRow 0 e 1 v n xs) (hs : ∀ k, v.ownBlock = some k → w'.heap[k]? = w.heap[k]?) : w'.ownsRow 0 e 1 v n xs := by
  refine ⟨h.1, h.2.imp id ?_⟩
  rintro ⟨g, cap, cur, rfl, h0, h1, h2⟩
  exact ⟨g, cap, cur, rfl, h0, (hs g rfl).trans h1, h2⟩
set_option maxRecDepth 20000 in
set_option maxHeartbeats 1000000 in
theorem enc_put (g : Nat) (S : Nat → Prop) (l x : List Int) (A : Option Addr) (c : Nat) (w : World) (h : EI g S l w) (hC : (Kd.int .u8).C w A x.length x) (hl : l.length + x.length ≤ 140737488355328) :
    Calls Try.prog 30 #[.slice A x.length c, .pointer (some ⟨g, 0, none⟩)] w (Put (EI g) S (l ++ x) w) := by
  obtain ⟨v, hg, ho, hne, hS⟩ := h
  obtain ⟨Av, cv, rfl⟩ := own_slice ho
  have cell0 : w.cell? ⟨g, 0, none⟩ = some (.slice Av l.length cv) := (blk_cell hg 0).trans rfl
  have HG := Aside0.mk hg
  have HO := Aside0.mk ho
  have HNE := Aside0.mk hne
  have HSS := Aside0.mk hS
  have HR := Aside0.mk (Kd.reads_of_C (enc := Value.int .u8) (d := (0 : Int)) (h1 := fun _ => rfl) hC)
  have hlt : ∀ k, (Value.slice Av l.length cv).ownBlock = some k → k < w.heap.size := fun k hk => own_lt ho k hk
  have HLT := Aside0.mk hlt
  have HGL := Aside0.mk (blk_lt hg)
  clear hg ho hne hS hlt
  go_enter Try.func30, Try.ntmps30
  go_wp2_with (refine print_append_row (w0 := w) 0 rfl (.tmp 3) (.tmp 4) 22 5 .u8 1 rfl Try.underlying22 info5 (by decide) (.slice Av l.length cv) l x A x.length c rfl rfl HO.out HR.out (Below.refl 0 w) (Nat.zero_le _) (by omega) ?_; intro v1 w1 hown hb hgr hat; obtain ⟨A1, cv1, rfl⟩ := own_slice hown; have hg1 := (hgr.block g HGL.out (fun e => HNE.out e.symm)).trans HG.out; have cellg : w1.cell? ⟨g, 0, none⟩ = some (.slice Av l.length cv) := (blk_cell hg1 0).trans rfl; have frg : w1.frozen? ⟨g, 0, none⟩ = false := blk_frozen hg1 0; have HG1 := Aside0.mk hg1; have HW1 := Aside0.mk (And.intro hown (And.intro hb (And.intro hgr hat))); clear hown hb hgr hat hg1)
  obtain ⟨hown, hb, hgr, hat⟩ := HW1.out
  rw [List.length_append] at hown
  have hne1 : (Value.slice A1 (l.length + x.length) cv1).ownBlock ≠ some g := by
    rcases hat with h | ⟨b, h, hbb⟩
    · intro he; exact HNE.out (h.symm.trans (by simpa [Value.ownBlock] using he))
    · intro he
      have := HGL.out
      have h2 : (Value.slice A1 (l ++ x).length cv1).ownBlock = some g := by simpa [Value.ownBlock] using he
      rw [h] at h2
      injection h2 with h2
      omega
  refine bodyPost_ret (v := .tuple #[]) (by simp [results, Try.results30, go_sem]) rfl ⟨rfl, fun k => k = g ∨ (Value.slice A1 (l.length + x.length) cv1).ownBlock = some k, ⟨_, by simpa using blk_set HG1.out 0 (.slice A1 (l.length + x.length) cv1), ?_, hne1, fun k => Iff.rfl⟩, ⟨hb.setCell (Nat.zero_le _) _, ?_⟩, ?_⟩
  · rw [List.length_append]
    exact own_step hown (fun k hk => Below.heap_setCell w1 _ _ k (fun he => hne1 (hk.trans (congrArg some he))))
  · intro k hk hn
    have h1 : k ≠ g := fun he => hn ((HSS.out k).2 (.inl he))
    rw [Below.heap_setCell w1 ⟨g, 0, none⟩ _ k h1]
    exact hgr.block k hk (fun he => hn ((HSS.out k).2 (.inr he.symm)))
  · rintro k (rfl | hk)
    · exact .inl ((HSS.out _).2 (.inl rfl))
    · rcases hat with h | ⟨b, h, hbb⟩
      · exact .inl ((HSS.out k).2 (.inr (h.symm.trans (by simpa [Value.ownBlock] using hk))))
      · refine .inr ?_
        have h2 : (Value.slice A1 (l ++ x).length cv1).ownBlock = some k := by simpa [Value.ownBlock] using hk
        rw [h] at h2
        injection h2 with h2
        omega
theorem enc_puts (g : Nat) : Puts 30 (.pointer (some ⟨g, 0, none⟩)) (EI g) where
  call S l x A c w hI hC _ _ hl := enc_put g S l x A c w hI hC hl
  run args w := by simp [callFunc, go_sem]; rfl
  lt S l w h k hk := by
    obtain ⟨v, hg, ho, _, hS⟩ := h
    rcases (hS k).1 hk with rfl | hk
    · exact blk_lt hg
    · exact own_lt ho k hk
  step S l w w' h hs _ := by
    obtain ⟨v, hg, ho, hne, hS⟩ := h
    exact ⟨v, (hs g ((hS g).2 (.inl rfl))).trans hg, own_step ho (fun k hk => hs k ((hS k).2 (.inr hk))), hne, hS⟩
/-- what Encode hands back -/
noncomputable def encB (N : Nat) (t : S26) : List Int := if (chk N t 1 0).1 = 0 then allB N t else []
set_option maxRecDepth 20000 in
set_option maxHeartbeats 1000000 in
theorem Encode_any (N : Nat) (t : S26) (A2 : Option Addr) (c2 : Nat) (A3 : Option Addr) (c3 : Nat) (A4 : Option Addr) (c4 : Nat) (w : World) (h : TR w t A2 c2 A3 c3 A4 c4) (hG : GT N t) (hl : (allB N t).length ≤ 140737488355328) :
    Calls Try.prog 11 #[TV t A2 c2 A3 c3 A4 c4] w fun e w' => ∃ A c, e = .returned (.tuple #[.slice A (encB N t).length c, .int .i64 (chk N t 1 0).1]) ∧ (Kd.int .u8).R 5 w' w.heap.size (fun _ => True) (.slice A (encB N t).length c) (encB N t) ∧ Below w.heap.size w w' := by
  have HT := Aside0.mk (And.intro h hG)
  have hb := below_alloc (Below.refl w.heap.size w) (.cells #[.int .i64 t.f0, .bool t.f1, .slice A2 t.f2.length c2, .slice A3 t.f3.length c3, .slice A4 t.f4.length c4] 26)
  have HX1 := Aside0.mk (heap_alloc_new w (.cells #[.int .i64 t.f0, .bool t.f1, .slice A2 t.f2.length c2, .slice A3 t.f3.length c3, .slice A4 t.f4.length c4] 26))
  have HB1 := Aside0.mk hb
  have HTR1 := Aside0.mk (h.below hb)
  have HL := Aside0.mk hl
  clear h hb hl
  go_enter Try.func11, Try.ntmps11
  go_upto_region 1 with fail
  generalize (w.alloc (.cells #[.int .i64 t.f0, .bool t.f1, .slice A2 t.f2.length c2, .slice A3 t.f3.length c3, .slice A4 t.f4.length c4] 26)) = w1 at *
  obtain ⟨p, hp9⟩ : ∃ q, w.heap.size = q := ⟨_, rfl⟩
  rw [hp9] at HX1 ⊢
  have HP9 : Aside0 (w.heap.size = p) := ⟨hp9⟩
  clear hp9
  obtain ⟨e0, e1, e2, e3, e4⟩ := cells5 HX1.out
  go_wp2_with fail
  refine (Check_any N t A2 c2 A3 c3 A4 c4 w1 HTR1.out HT.out.2).mono ?_
  rintro e_ w2 ⟨rfl, hb2⟩
  have HX2 := Aside0.mk ((hb2.block _ (blk_lt HX1.out)).trans HX1.out)
  have HB2 := Aside0.mk (below_then HB1.out HB1.out.size hb2)
  clear e0 e1 e2 e3 e4 hb2 HX1 HTR1
  by_cases hc : (chk N t 1 0).1 = 0
  · have he : encB N t = allB N t := by unfold encB; rw [if_pos hc]
    have HC := Aside0.mk hc
    have HE := Aside0.mk he
    rw [hc]
    clear he hc
    obtain ⟨e0, e1, e2, e3, e4⟩ := cells5 HX2.out
    go_upto_region 5 with fail
    have HX3 := Aside0.mk (blk_alloc HX2.out (.cells #[.slice none 0 0] 22))
    have HB3 := Aside0.mk (below_alloc HB2.out (.cells #[.slice none 0 0] 22))
    have HEI : Aside0 (EI w2.heap.size (fun k => k = w2.heap.size) [] (w2.alloc (.cells #[.slice none 0 0] 22))) := ⟨⟨_, heap_alloc_new w2 _, own_nil _ _ _ _, by simp [Value.ownBlock], fun k => by simp [Value.ownBlock]⟩⟩
    have HGE : Aside0 (w.heap.size ≤ w2.heap.size) := ⟨HB2.out.size⟩
    generalize (w2.alloc (.cells #[.slice none 0 0] 22)) = w3 at *
    generalize w2.heap.size = g at *
    clear e0 e1 e2 e3 e4 HX2 HB2
    obtain ⟨e0, e1, e2, e3, e4⟩ := cells5 HX3.out
    go_wp2_with fail
    refine (all_any (enc_puts g) w N t A2 c2 A3 c3 A4 c4 _ [] w3 HT.out.1 HT.out.2 (chk_ok N t 1 0 HT.out.2 HC.out) HEI.out HB3.out (fun i hi => by rw [hi]; exact HGE.out) (by simpa using HL.out)).mono ?_
    rintro e_ w4 ⟨rfl, S4, hI4, hk4, hs4⟩
    have hS4 : ∀ k, S4 k → w.heap.size ≤ k := fun k hk => (hs4 k hk).elim (fun h => by have := HGE.out; omega) (fun h => by have := HB3.out.size; omega)
    have HB4 := Aside0.mk (below_weaken HB3.out (Nat.le_refl _) (hk4.below HB3.out.size (fun k hk => by rw [hk]; exact HGE.out)))
    rw [List.nil_append] at hI4
    obtain ⟨v, hg, ho, -, hS⟩ := hI4
    obtain ⟨Av, cv, rfl⟩ := own_slice ho
    have hR := Kd.R_of_own (enc := Value.int .u8) (h1 := fun _ => rfl) (ok := fun _ => True) (Kd.own_raise (b' := w.heap.size) ho (fun k hk => hS4 k ((hS k).2 (.inr hk)))) (fun _ _ => trivial)
    have cellg : w4.cell? ⟨g, 0, none⟩ = some (.slice Av (allB N t).length cv) := (blk_cell hg 0).trans rfl
    have HR := Aside0.mk hR
    clear hR hg ho hS hS4 hk4 hs4 e0 e1 e2 e3 e4
    go_wp2_with fail
    refine bodyPost_ret (v := .tuple #[.slice Av (allB N t).length cv, .int .i64 0]) (by simp [results, Try.results11, go_sem]) rfl ⟨Av, cv, by rw [HE.out, HC.out], by rw [HE.out]; exact HR.out, HB4.out⟩
  · have he : encB N t = [] := by unfold encB; rw [if_neg hc]
    have HE := Aside0.mk he
    have hc2 : ((chk N t 1 0).1 != 0) = true := by simpa using hc
    obtain ⟨r, hr⟩ : ∃ r, (chk N t 1 0).1 = r := ⟨_, rfl⟩
    have HR := Aside0.mk hr
    rw [hr] at hc2 ⊢
    clear he hc hr
    go_wp2_with fail
    refine bodyPost_ret (v := .tuple #[.slice none 0 0, .int .i64 r]) (by simp [results, Try.results11, go_sem]) rfl ⟨none, 0, by rw [HE.out, HR.out]; rfl, by rw [HE.out]; exact Kd.R_nil _ _ _ _ _, HB2.out⟩
end Go.Proofs.Ythhajkmeadapgaa.Tree
/- nar: a tree's bytes tell the tree. Own work. -/
namespace Go.Proofs.Ythhajkmeadapgaa.Tree
set_option linter.unusedVariables false
set_option linter.unusedSimpArgs false
open Go.RowKit Go.Proofs.Ythhajkmeadapgaa.PL Go.Proofs.Ythhajkmeadapgaa.Mn Go.Proofs.YthhajkmeadapgaaW.PrintWords Go.Proofs.YthhajkmeadapgaaW.PrintLast Go.Proofs.YthhajkmeadapgaaW.PrintMore
theorem num8_inj {n m : Nat} (hn : n < 18446744073709551616) (hm : m < 18446744073709551616) (h : num8 n = num8 m) : n = m := by
  have hd : ∀ i, i < 8 → n / 256 ^ i % 256 = m / 256 ^ i % 256 := by
    intro i hi
    have := congrArg (fun l => l[i]?) h
    simp only [num8, List.getElem?_map, List.getElem?_range hi, Option.map_some, Option.some.injEq] at this
    omega
  have hs : ∀ (x i : Nat), x / 256 ^ i = 256 * (x / 256 ^ (i + 1)) + x / 256 ^ i % 256 := by
    intro x i
    rw [Nat.pow_succ, ← Nat.div_div_eq_div_mul]
    omega
  have h8 : n / 256 ^ 8 = m / 256 ^ 8 := by rw [Nat.div_eq_of_lt (by simpa using hn), Nat.div_eq_of_lt (by simpa using hm)]
  have st : ∀ i, i < 8 → n / 256 ^ (i + 1) = m / 256 ^ (i + 1) → n / 256 ^ i = m / 256 ^ i := fun i hi h => by rw [hs n i, hs m i, h, hd i hi]
  have h0 := st 0 (by omega) (st 1 (by omega) (st 2 (by omega) (st 3 (by omega) (st 4 (by omega) (st 5 (by omega) (st 6 (by omega) (st 7 (by omega) h8)))))))
  simpa using h0
theorem txL_inj {l m x y : List Int} (hl : l.length < 18446744073709551616) (hm : m.length < 18446744073709551616) (h : txL l ++ x = txL m ++ y) : l = m ∧ x = y := by
  unfold txL at h
  simp only [List.append_assoc] at h
  obtain ⟨h1, h2⟩ := List.append_inj h (by rw [num8_len, num8_len])
  have hlen := num8_inj hl hm h1
  obtain ⟨h3, h4⟩ := List.append_inj h2 hlen
  rw [hlen] at h4
  exact ⟨h3, List.append_cancel_left h4⟩
theorem bytesOf_inj {s u : ByteArray} (h : bytesOf s = bytesOf u) : s = u := by
  refine ByteArray.ext (Array.toList_inj.1 ?_)
  unfold bytesOf at h
  have hf : Function.Injective (fun b : UInt8 => (b.toNat : Int)) := fun a b h => UInt8.toNat_inj.1 (by have h' : (a.toNat : Int) = (b.toNat : Int) := h; omega)
  exact (List.map_inj_right (fun {_ _} h => hf h)).1 h
theorem tx_inj {s u : ByteArray} {x y : List Int} (hs : s.size < 18446744073709551616) (hu : u.size < 18446744073709551616) (h : tx s ++ x = tx u ++ y) : s = u ∧ x = y := by
  rw [tx_txL, tx_txL] at h
  obtain ⟨h1, h2⟩ := txL_inj (by rw [bytesOf_length]; exact hs) (by rw [bytesOf_length]; exact hu) h
  exact ⟨bytesOf_inj h1, h2⟩
theorem tx_same {s : ByteArray} {x y : List Int} (h : tx s ++ x = tx s ++ y) : x = y := List.append_cancel_left h
theorem bytesOf_strOfNums {l : List Int} (h : B8 l) : bytesOf (strOfNums l) = l := by
  unfold bytesOf
  rw [strOfNums_data, List.map_map]
  conv => rhs; rw [← List.map_id l]
  refine List.map_congr_left fun x hx => ?_
  obtain ⟨h0, h1⟩ := h x hx
  simp only [Function.comp_apply, id_eq]
  rw [UInt8.toNat_ofNat', Nat.mod_eq_of_lt (by omega)]
  omega
theorem strOfNums_inj {l m : List Int} (hl : B8 l) (hm : B8 m) (h : strOfNums l = strOfNums m) : l = m := by rw [← bytesOf_strOfNums hl, ← bytesOf_strOfNums hm, h]
theorem strOfNums_len (l : List Int) : (strOfNums l).size = l.length := by rw [← data_length, strOfNums_data, List.length_map]
theorem kids_inj (f g : S26 → List Int) : ∀ (ks js : List S26) (ns ms : List ByteArray) (x y : List Int), (∀ a ∈ ks, ∀ b ∈ js, ∀ x y : List Int, f a ++ x = g b ++ y → a = b ∧ x = y) → ns.length = ks.length → ms.length = js.length →
    (∀ s ∈ ns, s.size < 18446744073709551616) → (∀ s ∈ ms, s.size < 18446744073709551616) → kidsB f ns ks ++ (tx sR ++ x) = kidsB g ms js ++ (tx sR ++ y) → ns = ms ∧ ks = js ∧ x = y := by
  intro ks
  induction ks with
  | nil =>
    intro js ns ms x y hf hn hm h1 h2 h
    cases js with
    | nil =>
      obtain rfl := List.length_eq_zero_iff.1 hn
      obtain rfl := List.length_eq_zero_iff.1 hm
      simp only [kidsB, List.nil_append] at h
      exact ⟨rfl, rfl, tx_same h⟩
    | cons j js =>
      simp only [kidsB, entryB, txs_cons, List.append_assoc, List.nil_append] at h
      have := (tx_inj (by decide) (by decide) h).1
      exact absurd (congrArg ByteArray.size this) (by decide)
  | cons k ks ih =>
    intro js ns ms x y hf hn hm h1 h2 h
    cases js with
    | nil =>
      simp only [kidsB, entryB, txs_cons, List.append_assoc, List.nil_append] at h
      have := (tx_inj (by decide) (by decide) h).1
      exact absurd (congrArg ByteArray.size this) (by decide)
    | cons j js =>
      cases ns with
      | nil => simp at hn
      | cons n ns => cases ms with
        | nil => simp at hm
        | cons m ms =>
          simp only [kidsB, entryB, txs_cons, txs_nil, List.append_assoc, List.nil_append, List.headD_cons, List.tail_cons] at h
          have h3 := tx_same (tx_same (tx_same h))
          obtain ⟨rfl, h4⟩ := tx_inj (h1 _ List.mem_cons_self) (h2 _ List.mem_cons_self) h3
          have h5 := tx_same h4
          obtain ⟨rfl, h6⟩ := hf k List.mem_cons_self j List.mem_cons_self _ _ h5
          have h7 := tx_same h6
          obtain ⟨rfl, rfl, rfl⟩ := ih js ns ms x y (fun a ha b hb => hf a (List.mem_cons_of_mem _ ha) b (List.mem_cons_of_mem _ hb)) (by simpa using hn) (by simpa using hm) (fun s hs => h1 s (List.mem_cons_of_mem _ hs)) (fun s hs => h2 s (List.mem_cons_of_mem _ hs)) h7
          exact ⟨rfl, rfl, rfl⟩
/-- a node's own fields, as check has let them by -/
theorem formE_ok {t : S26} (h : formE t = 0) : (t.f0 = 1 ∧ t.f3 = [] ∧ t.f4 = []) ∨ (t.f0 = 3 ∧ t.f1 = false ∧ t.f3 = [] ∧ t.f4 = []) ∨ (t.f0 = 2 ∧ t.f1 = false ∧ t.f2 = [] ∧ t.f3.length = t.f4.length) := by
  unfold formE at h
  by_cases k1 : t.f0 = 1
  · rw [if_pos k1] at h
    refine .inl ⟨k1, ?_⟩
    split at h
    · cases h
    · exact ⟨List.length_eq_zero_iff.1 (by omega), List.length_eq_zero_iff.1 (by omega)⟩
  · rw [if_neg k1] at h
    by_cases k3 : t.f0 = 3
    · rw [if_pos k3] at h
      refine .inr (.inl ⟨k3, ?_⟩)
      split at h
      · cases h
      · rename_i q
        exact ⟨by cases hq : t.f1 with | false => rfl | true => exact absurd (.inl hq) q, List.length_eq_zero_iff.1 (by omega), List.length_eq_zero_iff.1 (by omega)⟩
    · rw [if_neg k3] at h
      by_cases k2 : t.f0 = 2
      · rw [if_pos k2] at h
        refine .inr (.inr ⟨k2, ?_⟩)
        split at h
        · cases h
        · rename_i q
          exact ⟨by cases hq : t.f1 with | false => rfl | true => exact absurd (.inl hq) q, List.length_eq_zero_iff.1 (by omega), by omega⟩
      · rw [if_neg k2] at h; cases h
theorem sz_lt {s : ByteArray} (h : s.size ≤ 140737488351232) : s.size < 18446744073709551616 := by omega
theorem node_inj : ∀ (N : Nat) (t : S26) (M : Nat) (u : S26) (x y : List Int), GT N t → Okt N t → GT M u → Okt M u → nodeB N t ++ x = nodeB M u ++ y → t = u ∧ x = y := by
  intro N
  induction N with
  | zero => intro t M u x y h; exact h.elim
  | succ N ih =>
    intro t M u x y hG hO hG2 hO2 h
    cases M with
    | zero => exact hG2.elim
    | succ M =>
      obtain ⟨-, ⟨-, a1, a2⟩, ⟨-, a3, a3'⟩, -, a4, a5⟩ := hG
      obtain ⟨-, ⟨-, b1, b2⟩, ⟨-, b3, b3'⟩, -, b4, b5⟩ := hG2
      obtain ⟨o1, o2, o3⟩ := hO
      obtain ⟨p1, p2, p3⟩ := hO2
      have ds : (strOfNums t.f2).size < 18446744073709551616 := by rw [strOfNums_len]; omega
      have du : (strOfNums u.f2).size < 18446744073709551616 := by rw [strOfNums_len]; omega
      have inj := fun h => strOfNums_inj (B8.of_wf a2) (B8.of_wf b2) h
      simp only [nodeB, txs_cons, txs_nil, List.append_assoc, List.nil_append] at h
      have h := tx_same (tx_same h)
      rcases formE_ok o1 with ⟨k1, q1, q2⟩ | ⟨k1, q0, q1, q2⟩ | ⟨k1, q0, q1, q2⟩
      · rw [if_pos k1] at h
        rcases formE_ok p1 with ⟨j1, r1, r2⟩ | ⟨j1, r0, r1, r2⟩ | ⟨j1, r0, r1, r2⟩
        · rw [if_pos j1] at h
          simp only [List.append_assoc] at h
          have h := tx_same h
          by_cases e1 : t.f1 = true
          · by_cases e2 : u.f1 = true
            · rw [if_pos e1, if_pos e2] at h
              simp only [List.append_assoc] at h
              have h := tx_same (tx_same (tx_same h))
              obtain ⟨g1, g2⟩ := tx_inj ds du h
              have g3 := inj g1
              refine ⟨?_, tx_same g2⟩
              cases t; cases u; simp_all
            · rw [if_pos e1, if_neg e2] at h
              simp only [List.append_assoc, List.nil_append] at h
              have := (tx_inj (by decide) (by decide) h).1
              exact absurd (congrArg ByteArray.size this) (by decide)
          · by_cases e2 : u.f1 = true
            · rw [if_neg e1, if_pos e2] at h
              simp only [List.append_assoc, List.nil_append] at h
              have := (tx_inj (by decide) (by decide) h).1
              exact absurd (congrArg ByteArray.size this) (by decide)
            · rw [if_neg e1, if_neg e2] at h
              simp only [List.nil_append] at h
              have h := tx_same h
              obtain ⟨g1, g2⟩ := tx_inj ds du h
              have g3 := inj g1
              refine ⟨?_, tx_same g2⟩
              cases t; cases u; simp_all
        · rw [if_neg (show ¬ u.f0 = 1 from by omega), if_pos j1] at h
          simp only [List.append_assoc] at h
          have := congrArg (fun s => s.data) (tx_inj (by decide) (by decide) h).1
          exact absurd this (by decide)
        · rw [if_neg (show ¬ u.f0 = 1 from by omega), if_neg (show ¬ u.f0 = 3 from by omega)] at h
          simp only [List.append_assoc] at h
          have := congrArg ByteArray.size (tx_inj (by decide) (by decide) h).1
          exact absurd this (by decide)
      · rw [if_neg (show ¬ t.f0 = 1 from by omega), if_pos k1] at h
        rcases formE_ok p1 with ⟨j1, r1, r2⟩ | ⟨j1, r0, r1, r2⟩ | ⟨j1, r0, r1, r2⟩
        · rw [if_pos j1] at h
          simp only [List.append_assoc] at h
          have := congrArg (fun s => s.data) (tx_inj (by decide) (by decide) h).1
          exact absurd this (by decide)
        · rw [if_neg (show ¬ u.f0 = 1 from by omega), if_pos j1] at h
          simp only [List.append_assoc] at h
          have h := tx_same (tx_same h)
          obtain ⟨g1, g2⟩ := tx_inj ds du h
          have g3 := inj g1
          refine ⟨?_, tx_same g2⟩
          cases t; cases u; simp_all
        · rw [if_neg (show ¬ u.f0 = 1 from by omega), if_neg (show ¬ u.f0 = 3 from by omega)] at h
          simp only [List.append_assoc] at h
          have := congrArg ByteArray.size (tx_inj (by decide) (by decide) h).1
          exact absurd this (by decide)
      · rw [if_neg (show ¬ t.f0 = 1 from by omega), if_neg (show ¬ t.f0 = 3 from by omega)] at h
        rcases formE_ok p1 with ⟨j1, r1, r2⟩ | ⟨j1, r0, r1, r2⟩ | ⟨j1, r0, r1, r2⟩
        · rw [if_pos j1] at h
          simp only [List.append_assoc] at h
          have := congrArg ByteArray.size (tx_inj (by decide) (by decide) h).1
          exact absurd this (by decide)
        · rw [if_neg (show ¬ u.f0 = 1 from by omega), if_pos j1] at h
          simp only [List.append_assoc] at h
          have := congrArg ByteArray.size (tx_inj (by decide) (by decide) h).1
          exact absurd this (by decide)
        · rw [if_neg (show ¬ u.f0 = 1 from by omega), if_neg (show ¬ u.f0 = 3 from by omega)] at h
          simp only [List.append_assoc] at h
          have h := tx_same h
          obtain ⟨g1, g2, g3⟩ := kids_inj (nodeB N) (nodeB M) t.f4 u.f4 t.f3 u.f3 x y (fun a ha b hb x y h => ih a M b x y (a5 a ha) (o3 a ha) (b5 b hb) (p3 b hb) h) q2 r2 (fun s hs => sz_lt (a3' s hs)) (fun s hs => sz_lt (b3' s hs)) h
          refine ⟨?_, g3⟩
          cases t; cases u; simp_all
theorem kidsB_congr {f g : S26 → List Int} : ∀ (ks : List S26) (ns : List ByteArray), (∀ k ∈ ks, f k = g k) → kidsB f ns ks = kidsB g ns ks := by
  intro ks
  induction ks with
  | nil => intro ns _; simp [kidsB]
  | cons k ks ih =>
    intro ns h
    simp only [kidsB]
    rw [h k List.mem_cons_self, ih _ (fun a ha => h a (List.mem_cons_of_mem _ ha))]
theorem nodeB_fuel : ∀ (N M : Nat) (t : S26), GT N t → GT M t → nodeB N t = nodeB M t := by
  intro N
  induction N with
  | zero => intro M t h; exact h.elim
  | succ N ih =>
    intro M t h h2
    cases M with
    | zero => exact h2.elim
    | succ M =>
      simp only [nodeB]
      rw [kidsB_congr (g := nodeB M) t.f4 t.f3 (fun k hk => ih M k (h.2.2.2.2.2 k hk) (h2.2.2.2.2.2 k hk))]
theorem all_inj {N M : Nat} {t u : S26} (hG : GT N t) (hO : Okt N t) (hG2 : GT M u) (hO2 : Okt M u) : allB N t = allB M u ↔ t = u := by
  constructor
  · intro h
    unfold allB at h
    have h2 := tx_same h
    exact (node_inj N t M u [] [] hG hO hG2 hO2 (by simpa using h2)).1
  · rintro rfl
    unfold allB
    rw [nodeB_fuel N M t hG hG2]
/-! ### how long a tree's bytes are -/
theorem pad_lt (n : Nat) : pad n < 8 := by unfold pad; omega
theorem tx_le (s : ByteArray) : (tx s).length ≤ 15 + s.size := by rw [tx_len]; have := pad_lt s.size; omega
theorem kids_le (f : S26 → List Int) (w : S26 → Nat) (c : Nat) : ∀ (ks : List S26) (ns : List ByteArray), (∀ k ∈ ks, (f k).length ≤ c * w k) → (kidsB f ns ks).length ≤ c * (ks.map w).sum + 106 * ks.length + 10 * szs ns + 9 * ns.length := by
  intro ks
  induction ks with
  | nil => intro ns _; simp [kidsB]
  | cons k ks ih =>
    intro ns h
    have h1 := h k List.mem_cons_self
    have h2 := ih ns.tail (fun a ha => h a (List.mem_cons_of_mem _ ha))
    simp only [kidsB, entryB, txs_cons, txs_nil, List.length_append, List.length_nil, List.map_cons, List.sum_cons, List.length_cons, Nat.mul_add] at h2 ⊢
    have e1 : (tx sEntry).length = 16 := by rw [tx_len]; rfl
    have e2 : (tx sL).length = 16 := by rw [tx_len]; rfl
    have e3 : (tx sName).length = 16 := by rw [tx_len]; rfl
    have e4 : (tx sNode).length = 16 := by rw [tx_len]; rfl
    have e5 : (tx sR).length = 16 := by rw [tx_len]; rfl
    cases ns with
    | nil =>
      have e6 : (tx ByteArray.empty).length = 8 := by rw [tx_len]; rfl
      simp only [List.headD_nil, List.tail_nil, szs, List.map_nil, List.sum_nil, List.length_nil] at h2 ⊢
      omega
    | cons n ns =>
      have e6 := tx_le n
      simp only [List.headD_cons, List.tail_cons, szs, List.map_cons, List.sum_cons, List.length_cons] at h2 ⊢
      omega
theorem sum_le {ks : List S26} {w : S26 → Nat} (h : ∀ k ∈ ks, 1 ≤ w k) : ks.length ≤ (ks.map w).sum := by
  induction ks with
  | nil => simp
  | cons k ks ih =>
    have h1 := h k List.mem_cons_self
    have h2 := ih (fun a ha => h a (List.mem_cons_of_mem _ ha))
    simp only [List.length_cons, List.map_cons, List.sum_cons]
    omega
theorem node_le : ∀ (N : Nat) (t : S26), GT N t → (nodeB N t).length + 106 ≤ 300 * Wt N t := by
  intro N
  induction N with
  | zero => intro t h; exact h.elim
  | succ N ih =>
    intro t h
    obtain ⟨-, ⟨-, a1, a2⟩, ⟨-, a3, a3'⟩, -, a4, a5⟩ := h
    have e1 : (tx sL).length = 16 := by rw [tx_len]; rfl
    have e2 : (tx sType).length = 16 := by rw [tx_len]; rfl
    have e3 : (tx sReg).length = 16 := by rw [tx_len]; rfl
    have e4 : (tx sExec).length = 24 := by rw [tx_len]; rfl
    have e5 : (tx sEmpty).length = 8 := by rw [tx_len]; rfl
    have e6 : (tx sCont).length = 16 := by rw [tx_len]; rfl
    have e7 : (tx sSym).length = 16 := by rw [tx_len]; rfl
    have e8 : (tx sTarget).length = 16 := by rw [tx_len]; rfl
    have e9 : (tx sDir).length = 24 := by rw [tx_len]; rfl
    have e10 : (tx sR).length = 16 := by rw [tx_len]; rfl
    have hd := tx_le (strOfNums t.f2)
    rw [strOfNums_len] at hd
    have hw : ∀ k ∈ t.f4, 1 ≤ Wt N k := fun k hk => by have := ih k (a5 k hk); omega
    have hk := kids_le (nodeB N) (fun k => 300 * Wt N k - 106) 1 t.f4 t.f3 (fun k hk => by have := ih k (a5 k hk); omega)
    have hs : (t.f4.map (fun k => 300 * Wt N k - 106)).sum + 106 * t.f4.length = 300 * (t.f4.map (Wt N)).sum := by
      have : ∀ l : List S26, (∀ k ∈ l, 1 ≤ Wt N k) → (l.map (fun k => 300 * Wt N k - 106)).sum + 106 * l.length = 300 * (l.map (Wt N)).sum := by
        intro l
        induction l with
        | nil => intro _; simp
        | cons k l ihl =>
          intro h
          have h1 := h k List.mem_cons_self
          have h2 := ihl (fun a ha => h a (List.mem_cons_of_mem _ ha))
          simp only [List.map_cons, List.sum_cons, List.length_cons]
          omega
      exact this _ hw
    simp only [Wt]
    simp only [nodeB, txs_cons, txs_nil, List.length_append, List.length_nil]
    split
    · split
      · simp only [List.length_append, List.length_nil]; omega
      · simp only [List.length_append, List.length_nil]; omega
    · split
      · simp only [List.length_append, List.length_nil]; omega
      · simp only [List.length_append, List.length_nil]; omega
theorem all_le {N : Nat} {t : S26} (h : GT N t) (hw : Wt N t ≤ 3000) : (allB N t).length ≤ 1000000 := by
  have h1 := node_le N t h
  have h2 := tx_le sMagic
  have h3 : sMagic.size = 13 := rfl
  unfold allB
  rw [List.length_append]
  omega
end Go.Proofs.Ythhajkmeadapgaa.Tree
/- chapter 5: known, same. Own work. -/
namespace Go.Proofs.Ythhajkmeadapgaa.Tree
set_option linter.unusedVariables false
set_option linter.unusedSimpArgs false
open Go.RowKit Go.Proofs.Ythhajkmeadapgaa.PL Go.Proofs.Ythhajkmeadapgaa.Mn Go.Proofs.YthhajkmeadapgaaW.PrintWords Go.Proofs.YthhajkmeadapgaaW.PrintLast Go.Proofs.YthhajkmeadapgaaW.PrintMore
theorem same_l0 (l m : List Int) (hlen : l.length = m.length) (hb : l.length < 9223372036854775807) : ∀ (d i k : Nat), i + d = l.length → d < k →
    pantrylaw5_same.l0 k l m (i : Int) = some (decide (l.drop i = m.drop i)) := by
  intro d
  induction d with
  | zero =>
    intro i k hi hk
    obtain ⟨k, rfl⟩ : ∃ q, k = q + 1 := ⟨k - 1, by omega⟩
    simp only [pantrylaw5_same.l0]
    refine jf (by omega) ?_
    rw [List.drop_eq_nil_of_le (by omega), List.drop_eq_nil_of_le (by omega)]
    simp
  | succ d ih =>
    intro i k hi hk
    obtain ⟨k, rfl⟩ : ∃ q, k = q + 1 := ⟨k - 1, by omega⟩
    have hil : i < l.length := by omega
    have him : i < m.length := by omega
    have e1 := List.drop_eq_getElem_cons hil
    have e2 := List.drop_eq_getElem_cons him
    have r1 : rd l (i : Int) = l[i] := by rw [rd_nat, List.getD_eq_getElem?_getD, List.getElem?_eq_getElem hil]; rfl
    have r2 : rd m (i : Int) = m[i] := by rw [rd_nat, List.getD_eq_getElem?_getD, List.getElem?_eq_getElem him]; rfl
    have c1 : (i : Int) < (l.length : Int) := by omega
    have c2 : (i : Int) < (m.length : Int) := by omega
    simp only [pantrylaw5_same.l0]
    refine it c1 (it (Int.natCast_nonneg _) (it c2 ?_))
    rw [r1, r2, e1, e2]
    have hi2 : i < 9223372036854775807 := by omega
    have hn := ih (i + 1) k (by omega) (by omega)
    refine ite_eq (fun h => ?_) (fun h => ?_)
    · rw [nx hi2, hn]
      simp only [List.cons.injEq, h, true_and]
    · simp only [List.cons.injEq, h, false_and, decide_false]
theorem same_f (l m : List Int) (hb : l.length < 9223372036854775807) (k : Nat) (hk : l.length < k) : pantrylaw5_same.f k l m = some (decide (l = m)) := by
  unfold pantrylaw5_same.f
  refine ite_eq (fun h => ?_) (fun h => ?_)
  · have := same_l0 l m (by omega) hb l.length 0 k (by omega) hk
    simpa using this
  · have : l ≠ m := fun e => h (by rw [e])
    simp [this]
theorem same_any (l m : List Int) (A B : Option Addr) (c d : Nat) (w : World) (h1 : (Kd.int .u8).C w A l.length l) (hc : l.length ≤ c) (h2 : (Kd.int .u8).C w B m.length m) (hd : m.length ≤ d) (hb : l.length < 9223372036854775807) :
    Calls Try.prog 13 #[.slice A l.length c, .slice B m.length d] w fun e w' => e = .returned (.bool (decide (l = m))) ∧ Below w.heap.size w w' :=
  (pantrylaw5_same.calls (l.length + 1) A c l B d m _ w h1 hc h2 hd (same_f l m hb _ (Nat.lt_succ_self _))).mono (fun e w' h => ⟨h.1, h.2.below⟩)
/-- the tree that known lays -/
def kT : S26 := ⟨1, false, [97], [], []⟩
theorem kT_G : GT 1 kT := by
  refine ⟨by decide, ⟨by simp [kT, maxLen], by simp [kT], ?_⟩, ⟨by simp [kT], by simp [kT], fun s h => by simp [kT] at h⟩, by simp [kT], by simp [kT], fun s h => by simp [kT] at h⟩
  intro x hx
  simp [kT] at hx
  subst hx
  decide
theorem kT_chk : chk 1 kT 1 0 = (0, 1) := by
  have h1 : formE kT = 0 := by decide
  have h2 : namesOK kT.f3 := fun i hi => by simp [kT] at hi
  rw [chk, if_neg (by omega), if_neg (by rw [h1]; simp), if_neg (fun h => h h2)]
  rfl
theorem kT_enc : encB 1 kT = allB 1 kT := by unfold encB; rw [kT_chk]; rfl
theorem kT_len : (allB 1 kT).length = 120 := by
  unfold allB
  have e0 : (strOfNums kT.f2).size = 1 := by rw [strOfNums_len]; rfl
  simp only [nodeB, txs_cons, txs_nil, List.length_append, List.length_nil, tx_len]
  rw [if_pos (show kT.f0 = 1 from rfl), if_neg (show ¬ kT.f1 = true from by simp [kT])]
  simp only [List.length_append, List.length_nil, tx_len, e0]
  rfl
set_option maxRecDepth 20000 in
set_option maxHeartbeats 1000000 in
theorem known_any (w : World) : Calls Try.prog 12 #[] w fun e w' => e = .returned (.bool true) ∧ Below w.heap.size w w' := by
  have hw1 : TR (w.alloc (.cells #[.int .u8 97] 5 (1, 2))) kT (some ⟨w.heap.size, 0, none⟩) 1 none 0 none 0 := by
    refine ⟨Nat.le_refl _, ?_, Nat.le_refl _, Kd.C_nil _ _, Nat.le_refl _, Kd.C_nil _ _⟩
    exact Kd.C_of_reads (d := (0 : Int)) (h1 := fun _ => rfl) ⟨rfl, by decide, fun _ => ⟨_, rfl, fun j hj => by
      rw [add_plain, cell_of_row _ _ j _ _ _ (heap_alloc_new w _)]
      have : j = 0 := by simp [kT] at hj; omega
      subst this
      rfl⟩⟩
  have H := Aside0.mk (Encode_any 1 kT _ _ _ _ _ _ _ hw1 kT_G (by rw [kT_len]; omega))
  have HB := Aside0.mk (below_alloc (Below.refl w.heap.size w) (.cells #[.int .u8 97] 5 (1, 2)))
  rw [kT_enc, kT_chk, kT_len] at H
  clear hw1
  have hcv := Lib.run_convert_bytes_const (P := Try.prog) w 22 5 #[.int .u8 97] 1 1 Try.underlying22 Try.underlying5
  go_enter Try.func12, Try.ntmps12
  go_wp2_with fail
  refine H.out.mono ?_
  rintro e_ w2 ⟨A, c, rfl, hR, hb⟩
  have HB2 := Aside0.mk (below_then HB.out HB.out.size hb)
  clear hR hb
  go_wp2_with fail
  exact bodyPost_ret (v := .bool true) (by simp [results, Try.results12, go_sem]) rfl ⟨rfl, HB2.out⟩
end Go.Proofs.Ythhajkmeadapgaa.Tree
