/- trees: what great tells of a tree that came in. Own work. -/
import Derived.Test.YtfnofjcdaghniaaDoorTree
import Derived.Test.YtfnofjcdaghniaaDoorPL
import Derived.Deep.RegionLaw
import Derived.Outline
import Derived.Lib.Hide
import Derived.StillTailTactics
namespace Go.Proofs.YtfnofjcdaghniaaDoor.Tree
set_option linter.unusedVariables false
set_option linter.unusedSimpArgs false
open Go.RowKit Go.Proofs.YtfnofjcdaghniaaDoor.PL Go.Proofs.YtfnofjcdaghniaaDoor.Mt Go.Proofs.YtfnofjcdaghniaaDoorW.PrintWords Go.Proofs.YtfnofjcdaghniaaDoorW.PrintLast Go.Proofs.YtfnofjcdaghniaaDoorW.PrintMore
def szs (l : List ByteArray) : Nat := (l.map (fun s => s.size / 10)).sum
/-- what great counts -/
def Wt : Nat → S26 → Nat
  | 0, _ => 0
  | n + 1, t => 1 + t.f2.length / 10 + t.f3.length + szs t.f3 + (t.f4.map (Wt n)).sum
/-- a tree as it is read -/
def TR (w : World) (t : S26) (A2 : Option Addr) (c2 : Nat) (A3 : Option Addr) (c3 : Nat) (A4 : Option Addr) (c4 : Nat) : Prop :=
  t.f2.length ≤ c2 ∧ (Kd.int .u8).C w A2 t.f2.length t.f2 ∧ t.f3.length ≤ c3 ∧ Kd.string.C w A3 t.f3.length t.f3 ∧ t.f4.length ≤ c4 ∧ k26.C w A4 t.f4.length t.f4
theorem TR.below {w w1 : World} {t : S26} {A2 : Option Addr} {c2 : Nat} {A3 : Option Addr} {c3 : Nat} {A4 : Option Addr} {c4 : Nat} (h : TR w t A2 c2 A3 c3 A4 c4) (hb : Below w.heap.size w w1) : TR w1 t A2 c2 A3 c3 A4 c4 :=
  ⟨h.1, Kd.C_below h.2.1 hb, h.2.2.1, Kd.C_below h.2.2.2.1 hb, h.2.2.2.2.1, Kd.C_below h.2.2.2.2.2 hb⟩
abbrev TV (t : S26) (A2 : Option Addr) (c2 : Nat) (A3 : Option Addr) (c3 : Nat) (A4 : Option Addr) (c4 : Nat) : Value := .agg #[.int .i64 t.f0, .bool t.f1, .slice A2 t.f2.length c2, .slice A3 t.f3.length c3, .slice A4 t.f4.length c4]
theorem szs_le (l : List ByteArray) (h : ∀ s ∈ l, s.size ≤ 140737488351232) : szs l ≤ l.length * 14073748835123 := by
  induction l with
  | nil => exact Nat.zero_le _
  | cons a l ih =>
    have h1 := ih (fun s hs => h s (List.mem_cons_of_mem _ hs))
    have h2 := h a (List.mem_cons_self ..)
    simp only [szs, List.map_cons, List.sum_cons, List.length_cons] at h1 ⊢
    omega
theorem rdOf_nat {α : Type} (d : α) (l : List α) (i : Nat) : rdOf d l (i : Int) = l.getD i d := by simp [rdOf]
theorem cells5 {w : World} {g t : Nat} {a b c d e : Value} (h : w.heap[g]? = some (.cells #[a, b, c, d, e] t (0, 0))) : w.cell? ⟨g, 0, none⟩ = some a ∧ w.cell? ⟨g, 1, none⟩ = some b ∧ w.cell? ⟨g, 2, none⟩ = some c ∧ w.cell? ⟨g, 3, none⟩ = some d ∧ w.cell? ⟨g, 4, none⟩ = some e :=
  ⟨(blk_cell h 0).trans rfl, (blk_cell h 1).trans rfl, (blk_cell h 2).trans rfl, (blk_cell h 3).trans rfl, (blk_cell h 4).trans rfl⟩
set_option maxRecDepth 20000 in
set_option maxHeartbeats 1000000 in
theorem great_any (w0 : World) : ∀ (N : Nat) (t : S26) (A2 : Option Addr) (c2 : Nat) (A3 : Option Addr) (c3 : Nat) (A4 : Option Addr) (c4 : Nat) (w : World) (g n : Nat), TR w0 t A2 c2 A3 c3 A4 c4 → GT N t → Below w0.heap.size w0 w → w0.heap.size ≤ g → w.heap[g]? = some (.cells #[.int .i64 n] 3 (0, 0)) → n ≤ 50000000000000000 →
    Calls Tryd.prog 29 #[TV t A2 c2 A3 c3 A4 c4, .pointer (some ⟨g, 0, none⟩)] w fun e w' => ∃ (r : Bool) (n' : Nat), e = .returned (.bool r) ∧ w'.heap[g]? = some (.cells #[.int .i64 n'] 3 (0, 0)) ∧ KeepBut w w' g none ∧ Below w0.heap.size w0 w' ∧ (r = false → n' = n + Wt N t ∧ n' ≤ 3000) := by
  intro N
  induction N with
  | zero => intro t A2 c2 A3 c3 A4 c4 w g n h hG; exact hG.elim
  | succ N ih =>
    intro t A2 c2 A3 c3 A4 c4 w g n h hG hB hg hblk hn
    have IH := Aside0.mk ih
    clear ih
    obtain ⟨hd1, hd2, hn1, hn2, hk1, hk2⟩ := h
    obtain ⟨hG0, ⟨hG1, hG2, _⟩, ⟨hG3, hG4, hG5⟩, hG6, hG7, hG8⟩ := hG
    have HNM := Aside0.mk hn2
    have HKK := Aside0.mk hk2
    have HG5 := Aside0.mk hG5
    have HG8 := Aside0.mk hG8
    have HB := Aside0.mk hB
    have HBLK := Aside0.mk hblk
    have hgp : g ≠ w.heap.size := by have := blk_lt hblk; omega
    have hblk1 := blk_alloc hblk (.cells #[.int .i64 t.f0, .bool t.f1, .slice A2 t.f2.length c2, .slice A3 t.f3.length c3, .slice A4 t.f4.length c4] 26)
    have hbox1 : (w.alloc (.cells #[.int .i64 t.f0, .bool t.f1, .slice A2 t.f2.length c2, .slice A3 t.f3.length c3, .slice A4 t.f4.length c4] 26)).heap[w.heap.size]? = some (.cells #[.int .i64 t.f0, .bool t.f1, .slice A2 t.f2.length c2, .slice A3 t.f3.length c3, .slice A4 t.f4.length c4] 26 (0, 0)) := heap_alloc_new w _
    have HB1 := Aside0.mk (below_alloc HB.out (.cells #[.int .i64 t.f0, .bool t.f1, .slice A2 t.f2.length c2, .slice A3 t.f3.length c3, .slice A4 t.f4.length c4] 26))
    have HKB : Aside0 (KeepBut w (w.alloc (.cells #[.int .i64 t.f0, .bool t.f1, .slice A2 t.f2.length c2, .slice A3 t.f3.length c3, .slice A4 t.f4.length c4] 26)) g none) := ⟨KeepBut.of_below (below_alloc (Below.refl _ w) _) g none⟩
    have HW0 : Aside0 (w0.heap.size ≤ w.heap.size) := ⟨HB.out.size⟩
    clear hn2 hd2 hk2 hG5 hG8 hB hblk
    go_enter Tryd.func29, Tryd.ntmps29
    go_wp2_with fail
    generalize (w.alloc (.cells #[.int .i64 t.f0, .bool t.f1, .slice A2 t.f2.length c2, .slice A3 t.f3.length c3, .slice A4 t.f4.length c4] 26)) = w1 at *
    generalize w.heap.size = p at *
    have HBLK1 := Aside0.mk hblk1
    have HBOX1 := Aside0.mk hbox1
    have cell0 : w1.cell? ⟨g, 0, none⟩ = some (.int .i64 n) := (blk_cell hblk1 0).trans rfl
    have fr0 : w1.frozen? ⟨g, 0, none⟩ = false := blk_frozen hblk1 0
    obtain ⟨b0, b1, b2, b3, b4⟩ := cells5 hbox1
    clear hblk1 hbox1
    go_still_tail 15, (by kernel_rfl)
    change wpList _ _ _ _ _ w1.drew
    have cell0d : w1.drew.cell? ⟨g, 0, none⟩ = some (.int .i64 n) := cell0
    have fr0d : w1.drew.frozen? ⟨g, 0, none⟩ = false := fr0
    go_upto_region 2 with fail
    obtain ⟨n1, hn1⟩ : ∃ q : Nat, q = n + 1 + t.f2.length / 10 + t.f3.length := ⟨_, rfl⟩
    have hv : ((n : Int) + 1 + (t.f2.length : Int) / 10 + (t.f3.length : Int)) = (n1 : Int) := by omega
    rw [hv]
    have hblk2 : ((w1.setCell ⟨g, 0, none⟩ (.int .i64 (n1 : Int))).drew).heap[g]? = some (.cells #[.int .i64 (n1 : Int)] 3 (0, 0)) := by
      show (w1.setCell ⟨g, 0, none⟩ (.int .i64 (n1 : Int))).heap[g]? = _
      simpa using blk_set HBLK1.out 0 (.int .i64 (n1 : Int))
    have hbox2 : ((w1.setCell ⟨g, 0, none⟩ (.int .i64 (n1 : Int))).drew).heap[p]? = some (.cells #[.int .i64 t.f0, .bool t.f1, .slice A2 t.f2.length c2, .slice A3 t.f3.length c3, .slice A4 t.f4.length c4] 26 (0, 0)) := blk_far HBOX1.out (show p ≠ g from fun e => hgp e.symm) _
    have HB2 : Aside0 (Below w0.heap.size w0 ((w1.setCell ⟨g, 0, none⟩ (.int .i64 (n1 : Int))).drew)) := ⟨below_drew (below_set HB1.out hg)⟩
    have HK2 : Aside0 (KeepBut w ((w1.setCell ⟨g, 0, none⟩ (.int .i64 (n1 : Int))).drew) g none) := ⟨HKB.out.set_ 0 _⟩
    have HN1 := Aside0.mk hn1
    have hn1b : n1 ≤ 50100000000000000 := by omega
    clear hv hn1 cell0 fr0 cell0d fr0d b0 b1 b2 b3 b4 HBLK1 HBOX1 HB1 HKB hn
    generalize ((w1.setCell ⟨g, 0, none⟩ (.int .i64 (n1 : Int))).drew) = w2 at *
    have cell0 : w2.cell? ⟨g, 0, none⟩ = some (.int .i64 n1) := (blk_cell hblk2 0).trans rfl
    have HBLK2 := Aside0.mk hblk2
    have HBOX2 := Aside0.mk hbox2
    obtain ⟨b0, b1, b2, b3, b4⟩ := cells5 hbox2
    clear hblk2 hbox2 b0 b1 b2
    by_cases hbig : 3000 < n1
    · have hbig' : (3000 : Int) < (n1 : Int) := by omega
      go_wp2_with fail
      exact bodyPost_ret (v := .bool true) (by simp [results, Tryd.results29, go_sem]) rfl ⟨true, n1, rfl, HBLK2.out, HK2.out, HB2.out, fun h => by cases h⟩
    · have hbig' : ¬ (3000 : Int) < (n1 : Int) := by omega
      go_wp2_with fail
      go_loopw [5] (fun v wr => ∃ (k m : Nat), v = .int .i64 (k : Int) ∧ k ≤ t.f3.length ∧ Aside0 (m = n1 + szs (t.f3.take k)) ∧ Aside0 (wr.heap[g]? = some (.cells #[.int .i64 (m : Int)] 3 (0, 0))) ∧ Aside0 (wr.heap[p]? = some (.cells #[.int .i64 t.f0, .bool t.f1, .slice A2 t.f2.length c2, .slice A3 t.f3.length c3, .slice A4 t.f4.length c4] 26 (0, 0))) ∧ Aside0 (Below w0.heap.size w0 wr) ∧ Aside0 (KeepBut w wr g none)) (fun v _ => t.f3.length - (intOf v).toNat)
      case atStart => exact ⟨0, n1, rfl, Nat.zero_le _, ⟨by simp [szs]⟩, HBLK2, HBOX2, HB2, HK2⟩
      case round =>
        clear b3 b4 cell0
        obtain ⟨k, m, rfl, hk, HM, HG, HP, HBk, HKk⟩ := hrel
        obtain ⟨b0, b1, b2, b3, b4⟩ := cells5 HP.out
        have cellm : wr.cell? ⟨g, 0, none⟩ = some (.int .i64 m) := (blk_cell HG.out 0).trans rfl
        have frm : wr.frozen? ⟨g, 0, none⟩ = false := blk_frozen HG.out 0
        have hmb : m ≤ 45000000000000000 := by
          have h1 := szs_le (t.f3.take k) (fun s hs => HG5.out s (List.mem_of_mem_take hs))
          have h2 : (t.f3.take k).length ≤ 3000 := by rw [List.length_take]; have := HN1.out; omega
          have h3 : (t.f3.take k).length * 14073748835123 ≤ 3000 * 14073748835123 := Nat.mul_le_mul_right _ h2
          have := HM.out
          omega
        clear b0 b1 b2
        by_cases hlt : k < t.f3.length
        · obtain ⟨ad, hA, hcs⟩ := Kd.at_string (Kd.C_below HNM.out HBk.out) (k : Int) (by omega) (by omega)
          obtain ⟨s, hs⟩ : ∃ x, rdOf ByteArray.empty t.f3 (k : Int) = x := ⟨_, rfl⟩
          have hse : t.f3[k] = s := by rw [← hs, rdOf_nat, List.getD_eq_getElem?_getD, List.getElem?_eq_getElem hlt]; rfl
          have hsz : s.size ≤ 140737488351232 := hse ▸ HG5.out _ (List.getElem_mem hlt)
          have HSE := Aside0.mk hse
          rw [hs, Int.toNat_natCast] at hcs
          subst hA
          clear hs hse
          go_wp2_with fail
          go_still_tail 13, (by kernel_rfl)
          change wpList _ _ _ _ _ wr.drew
          have celld : wr.drew.cell? ⟨g, 0, none⟩ = some (.int .i64 m) := cellm
          have frd : wr.drew.frozen? ⟨g, 0, none⟩ = false := frm
          go_wp2_with fail
          have hv2 : ((m : Int) + (s.size : Int) / 10) = ((m + s.size / 10 : Nat) : Int) := by omega
          rw [hv2]
          have hg9 : ((wr.setCell ⟨g, 0, none⟩ (.int .i64 ((m + s.size / 10 : Nat) : Int))).drew).heap[g]? = some (.cells #[.int .i64 ((m + s.size / 10 : Nat) : Int)] 3 (0, 0)) := by
            show (wr.setCell ⟨g, 0, none⟩ (.int .i64 ((m + s.size / 10 : Nat) : Int))).heap[g]? = _
            simpa using blk_set HG.out 0 (.int .i64 ((m + s.size / 10 : Nat) : Int))
          refine ⟨⟨k + 1, m + s.size / 10, by go_num, by omega, ⟨?_⟩, ⟨hg9⟩, ⟨blk_far HP.out (show p ≠ g from fun e => hgp e.symm) _⟩, ⟨below_drew (below_set HBk.out hg)⟩, ⟨HKk.out.set_ 0 _⟩⟩, by simp [intOf]; omega⟩
          have hm9 := HM.out
          rw [List.take_succ_eq_append_getElem hlt, HSE.out]
          simp only [szs, List.map_append, List.sum_append, List.map_cons, List.map_nil, List.sum_cons, List.sum_nil] at hm9 ⊢
          omega
        · have hkk : k = t.f3.length := by omega
          subst hkk
          have hm9 := HM.out
          rw [List.take_length] at hm9
          have HM9 := Aside0.mk hm9
          clear hm9 HM hlt
          go_upto_region 8 with fail
          clear b3 b4 cellm frm
          obtain ⟨m0, hm0⟩ : ∃ q, q = m := ⟨_, rfl⟩
          rw [← hm0] at HM9 hmb
          have HM0 := Aside0.mk hm0
          clear hm0
          go_upto_region 9 with fail
          go_loopw [6] (fun v wr => ∃ (k mm : Nat), v = .int .i64 (k : Int) ∧ k ≤ t.f4.length ∧ mm ≤ 45000000000000000 ∧ Aside0 (mm = m0 + ((t.f4.take k).map (Wt N)).sum ∧ (k = 0 ∨ mm ≤ 3000)) ∧ Aside0 (wr.heap[g]? = some (.cells #[.int .i64 (mm : Int)] 3 (0, 0))) ∧ Aside0 (wr.heap[p]? = some (.cells #[.int .i64 t.f0, .bool t.f1, .slice A2 t.f2.length c2, .slice A3 t.f3.length c3, .slice A4 t.f4.length c4] 26 (0, 0))) ∧ Aside0 (Below w0.heap.size w0 wr) ∧ Aside0 (KeepBut w wr g none)) (fun v _ => t.f4.length - (intOf v).toNat)
          case atStart => exact ⟨0, m, rfl, Nat.zero_le _, HM0.out ▸ hmb, ⟨by rw [HM0.out]; simp, .inl rfl⟩, HG, HP, HBk, HKk⟩
          case round =>
            clear HG HP HBk HKk
            obtain ⟨k, mm, rfl, hk, hmm, HMM, HG, HP, HBk, HKk⟩ := hrel
            obtain ⟨b0, b1, b2, b3, b4⟩ := cells5 HP.out
            have cellm : wr.cell? ⟨g, 0, none⟩ = some (.int .i64 mm) := (blk_cell HG.out 0).trans rfl
            clear b0 b1 b2
            by_cases hlt : k < t.f4.length
            · obtain ⟨ad, B2, d2, B3, d3, B4, d4, hA, e0, e1, e2, e3, e4, r1, r2, r3, r4, r5, r6⟩ := at_T26 HKK.out (k : Int) (by omega) (by omega)
              obtain ⟨u, hu⟩ : ∃ x, rd_T26 t.f4 (k : Int) = x := ⟨_, rfl⟩
              have hue : t.f4[k] = u := by rw [← hu]; unfold rd_T26; rw [Int.toNat_natCast, List.getD_eq_getElem?_getD, List.getElem?_eq_getElem hlt]; rfl
              have HU := Aside0.mk hue
              have HGU : Aside0 (GT N u) := ⟨hue ▸ HG8.out _ (List.getElem_mem hlt)⟩
              rw [hu] at e0 e1 e2 e3 e4 r1 r2 r3 r4 r5 r6
              rw [Int.toNat_natCast] at e0 e1 e2 e3 e4
              have f0 := pw_cell_below HBk.out e0
              have f1 := pw_cell_below HBk.out e1
              have f2 := pw_cell_below HBk.out e2
              have f3 := pw_cell_below HBk.out e3
              have f4 := pw_cell_below HBk.out e4
              have HTR : Aside0 (TR w0 u B2 d2 B3 d3 B4 d4) := ⟨⟨r1, r2, r3, r4, r5, r6⟩⟩
              subst hA
              clear hue hu e0 e1 e2 e3 e4 r1 r2 r3 r4 r5 r6
              go_wp2_with fail
              refine (IH.out u B2 d2 B3 d3 B4 d4 wr g mm HTR.out HGU.out HBk.out hg HG.out (by omega)).mono ?_
              rintro e_ w7 ⟨r, n', rfl, hg7, hk7, hb7, hr7⟩
              have HG7 := Aside0.mk hg7
              have HK7 : Aside0 (KeepBut w w7 g none) := ⟨HKk.out.trans hk7 (.inl rfl)⟩
              have HP7 := Aside0.mk (hk7.blk HP.out (fun e => hgp e.symm) (by simp))
              have HB7 := Aside0.mk hb7
              have HR7 := Aside0.mk hr7
              clear hg7 hk7 hb7 hr7 f0 f1 f2 f3 f4 b3 b4 cellm
              cases r with
              | true =>
                go_wp2_with fail
                exact bodyPost_ret (v := .bool true) (by simp [results, Tryd.results29, go_sem]) rfl ⟨true, n', rfl, HG7.out, HK7.out, HB7.out, fun h => by cases h⟩
              | false =>
                go_wp2_with fail
                obtain ⟨hn7, hle7⟩ := HR7.out trivial
                refine ⟨⟨k + 1, n', by go_num, by omega, by omega, ⟨?_, .inr hle7⟩, HG7, HP7, HB7, HK7⟩, by simp [intOf]; omega⟩
                have h9 := HMM.out.1
                rw [List.take_succ_eq_append_getElem hlt, List.map_append, List.sum_append, HU.out]
                simp only [List.map_cons, List.map_nil, List.sum_cons, List.sum_nil]
                omega
            · have hkk : k = t.f4.length := by omega
              subst hkk
              have h9 := HMM.out.1
              rw [List.take_length] at h9
              have hW : mm = n + Wt (N + 1) t := by
                have h8 := HM9.out
                have h7 := HN1.out
                rw [h9, h8, h7]
                simp only [Wt]
                omega
              have HWT := Aside0.mk hW
              clear hW h9 HMM hlt
              by_cases hb9 : 3000 < mm
              · have hb9' : (3000 : Int) < (mm : Int) := by omega
                go_wp2_with fail
                exact bodyPost_ret (v := .bool true) (by simp [results, Tryd.results29, go_sem]) rfl ⟨true, mm, rfl, HG.out, HKk.out, HBk.out, fun h => by cases h⟩
              · have hb9' : ¬ (3000 : Int) < (mm : Int) := by omega
                go_wp2_with fail
                exact bodyPost_ret (v := .bool false) (by simp [results, Tryd.results29, go_sem]) rfl (.inl ⟨rfl, mm, HG.out, HKk.out, HBk.out, HWT.out, by omega⟩)
end Go.Proofs.YtfnofjcdaghniaaDoor.Tree
