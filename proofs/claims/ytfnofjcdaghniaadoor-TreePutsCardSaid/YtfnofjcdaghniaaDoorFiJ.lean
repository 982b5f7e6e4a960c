/- tree.files, walked. Own work; printed by gen_fi.py. -/
import Derived.Test.YtfnofjcdaghniaaDoorPuK
import Derived.Test.YtfnofjcdaghniaaDoorShel2
import Derived.Sort.OwnSorted
namespace Go.Proofs.YtfnofjcdaghniaaDoor.Tree
set_option linter.unusedVariables false
set_option linter.unusedSimpArgs false
open Go.RowKit Go.Proofs.YtfnofjcdaghniaaDoor.PL Go.Proofs.YtfnofjcdaghniaaDoor.Mt Go.Proofs.YtfnofjcdaghniaaDoorW.PrintWords Go.Proofs.YtfnofjcdaghniaaDoorW.PrintLast Go.Proofs.YtfnofjcdaghniaaDoorW.PrintMore
theorem row1 {W : World} {a : Nat} {nm : ByteArray} (h : W.heap[a]? = some (.cells #[.string nm] 9 (0, 0))) : ReadsRow (fun q c => c = [.string q]) 1 W (some ⟨a, 0, none⟩) 1 [nm] :=
  ⟨rfl, by decide, fun _ => ⟨_, rfl, fun j q hj => ⟨[.string q], rfl, rfl, fun i u hu => by
    cases j with
    | zero =>
      simp at hj
      subst hj
      cases i with
      | zero => simp at hu; subst hu; exact (blk_cell h 0).trans rfl
      | succ i => simp at hu
    | succ j => simp at hj⟩⟩⟩
theorem hold_ {P : Prop} (h : Aside0 P) : P := h.out
/-- the place of an entry -/
def und (p n : ByteArray) : ByteArray := if (p.toList == []) = true then n else (p ++ ⟨#[47]⟩) ++ n
def kidsF (f : S26 → ByteArray → List ByteArray) (p : ByteArray) : List ByteArray → List S26 → List ByteArray
  | n :: ns, u :: us => f u (und p n) ++ kidsF f p ns us
  | _, _ => []
def filesS : Nat → S26 → ByteArray → List ByteArray
  | 0, _, _ => []
  | N + 1, t, p => if t.f0 = 1 then [p] else kidsF (filesS N) p t.f3 t.f4
/-- nodes -/
def cntN : Nat → S26 → Nat
  | 0, _ => 0
  | N + 1, t => 1 + (t.f4.map (cntN N)).sum
theorem kidsF_len (N : Nat) (f : S26 → ByteArray → List ByteArray) (hf : ∀ u p, (f u p).length ≤ cntN N u) (p : ByteArray) : ∀ (ns : List ByteArray) (us : List S26), (kidsF f p ns us).length ≤ (us.map (cntN N)).sum := by
  intro ns
  induction ns with
  | nil => intro us; cases us <;> simp [kidsF]
  | cons n ns ih =>
    intro us
    cases us with
    | nil => simp [kidsF]
    | cons u us => rw [kidsF, List.length_append, List.map_cons, List.sum_cons]; have := ih us; have := hf u (und p n); omega
theorem files_len : ∀ (N : Nat) (u : S26) (p : ByteArray), (filesS N u p).length ≤ cntN N u := by
  intro N
  induction N with
  | zero => intro u p; simp [filesS]
  | succ N ih =>
    intro u p
    rw [filesS, cntN]
    split
    · simp
    · have := kidsF_len N (filesS N) ih p u.f3 u.f4; omega
theorem isE_100 {s : ByteArray} (h : isE s = true) : s.size ≤ 100 := by
  unfold isE at h
  simp only [Bool.and_eq_true, decide_eq_true_eq] at h
  have := h.1.1.1.1.2
  omega
theorem und_size {p nm : ByteArray} {d : Nat} (h : nm.size ≤ 100) (hp : p.size ≤ 200 * d) : (und p nm).size ≤ 200 * (d + 1) := by
  unfold und
  split
  · omega
  · rw [ByteArray.size_append, ByteArray.size_append]
    have : (⟨#[47]⟩ : ByteArray).size = 1 := rfl
    omega
/-- a tree that check lets pass somewhere -/
def CHK (N d : Nat) (t : S26) : Prop := GT N t ∧ ∃ n, n ≤ 65536 ∧ (chk N t d n).1 = 0
theorem CHK.node {N d : Nat} {t : S26} (h : CHK (N + 1) d t) : formE t = 0 ∧ namesOK t.f3 ∧ t.f3.length = t.f4.length ∧ d ≤ 64 ∧ ∀ u ∈ t.f4, CHK N (d + 1) u := by
  obtain ⟨hG, n, hn, h⟩ := h
  obtain ⟨h1, h2, h3, h4, h5⟩ := chk_node h
  rw [h5] at h
  refine ⟨h3, h4, formE_len h3, h2, fun u hu => ?_⟩
  obtain ⟨m', hm, h7⟩ := kidsC_all _ (fun u m hm h => chk_le N u (d + 1) m hm h) t.f4 (n + 1) h1 h u hu
  exact ⟨hG.2.2.2.2.2 u hu, m', hm, h7⟩
theorem formE_file {t : S26} (h : formE t = 0) (h1 : t.f0 = 1) : t.f3 = [] ∧ t.f4 = [] := by
  unfold formE at h
  rw [if_pos h1] at h
  split at h
  · cases h
  · rename_i q
    exact ⟨List.eq_nil_of_length_eq_zero (by omega), List.eq_nil_of_length_eq_zero (by omega)⟩
theorem cnt_len (N : Nat) (l : List S26) (h : ∀ u ∈ l, GT N u) : l.length ≤ (l.map (cntN N)).sum := by
  induction l with
  | nil => simp
  | cons a l ih =>
    rw [List.length_cons, List.map_cons, List.sum_cons]
    have h1 := ih (fun u hu => h u (List.mem_cons_of_mem _ hu))
    obtain ⟨M, rfl⟩ := GT_pos (h a List.mem_cons_self)
    rw [cntN]
    omega
/-- the list of places, as it lies -/
structure FL (w0 wr : World) (g : Nat) (A : Option Addr) (c : Nat) (xs : List ByteArray) : Prop where
  blk : wr.heap[g]? = some (.cells #[.slice A xs.length c] 23 (0, 0))
  r : Kd.string.R 9 wr w0.heap.size (fun _ => True) (.slice A xs.length c) xs
  bel : Below w0.heap.size w0 wr
theorem FL.below {w0 wr w2 : World} {g : Nat} {A : Option Addr} {c : Nat} {xs : List ByteArray} (h : FL w0 wr g A c xs) (hb : Below wr.heap.size wr w2) : FL w0 w2 g A c xs :=
  ⟨(hb.block _ (blk_lt h.blk)).trans h.blk, Kd.R_below h.r hb, below_then h.bel h.bel.size hb⟩
def CF (w0 : World) (N : Nat) : Prop := ∀ (t : S26) (A2 : Option Addr) (c2 : Nat) (A3 : Option Addr) (c3 : Nat) (A4 : Option Addr) (c4 : Nat) (p : ByteArray) (w : World) (g : Nat) (A : Option Addr) (c : Nat) (xs : List ByteArray) (d : Nat), TR w0 t A2 c2 A3 c3 A4 c4 → CHK N d t → p.size ≤ 200 * d → w0.heap.size ≤ g → FL w0 w g A c xs → xs.length + cntN N t ≤ 65536 →
  Calls Tryd.prog 35 #[TV t A2 c2 A3 c3 A4 c4, .string p, .pointer (some ⟨g, 0, none⟩)] w fun e w' => e = .returned (.tuple #[]) ∧ ∃ A' c', FL w0 w' g A' c' (xs ++ filesS N t p) ∧ KeepBut w w' g (Value.slice A xs.length c).ownBlock ∧ ((Value.slice A' (xs ++ filesS N t p).length c').ownBlock = (Value.slice A xs.length c).ownBlock ∨ ∃ b, (Value.slice A' (xs ++ filesS N t p).length c').ownBlock = some b ∧ w.heap.size ≤ b)
set_option maxRecDepth 20000 in
set_option maxHeartbeats 2000000 in
theorem files_leaf (w0 : World) (N : Nat) (t : S26) (A2 : Option Addr) (c2 : Nat) (A3 : Option Addr) (c3 : Nat) (A4 : Option Addr) (c4 : Nat) (p : ByteArray) (w : World) (g : Nat) (A : Option Addr) (c : Nat) (xs : List ByteArray) (h1 : t.f0 = 1) (hk : t.f4 = []) (hg : w0.heap.size ≤ g) (hF : FL w0 w g A c xs) (hl : xs.length < 65536) :
  Calls Tryd.prog 35 #[TV t A2 c2 A3 c3 A4 c4, .string p, .pointer (some ⟨g, 0, none⟩)] w fun e w' => e = .returned (.tuple #[]) ∧ ∃ A' c', FL w0 w' g A' c' (xs ++ [p]) ∧ KeepBut w w' g (Value.slice A xs.length c).ownBlock ∧ ((Value.slice A' (xs ++ [p]).length c').ownBlock = (Value.slice A xs.length c).ownBlock ∨ ∃ b, (Value.slice A' (xs ++ [p]).length c').ownBlock = some b ∧ w.heap.size ≤ b) := by
  have hb1 := below_alloc (Below.refl w.heap.size w) (.cells #[.int .i64 t.f0, .bool t.f1, .slice A2 t.f2.length c2, .slice A3 t.f3.length c3, .slice A4 t.f4.length c4] 26)
  have HF1 := Aside0.mk (hF.below hb1)
  have HP1 := Aside0.mk (heap_alloc_new w (.cells #[.int .i64 t.f0, .bool t.f1, .slice A2 t.f2.length c2, .slice A3 t.f3.length c3, .slice A4 t.f4.length c4] 26))
  have HK1 : Aside0 (KeepBut w (w.alloc (.cells #[.int .i64 t.f0, .bool t.f1, .slice A2 t.f2.length c2, .slice A3 t.f3.length c3, .slice A4 t.f4.length c4] 26)) g (Value.slice A xs.length c).ownBlock) := ⟨KeepBut.of_below hb1 g _⟩
  have HO : Aside0 (∀ k, (Value.slice A xs.length c).ownBlock = some k → k < w.heap.size) := ⟨Kd.R_lt hF.r⟩
  have HSZ : Aside0 (w.heap.size ≤ (w.alloc (.cells #[.int .i64 t.f0, .bool t.f1, .slice A2 t.f2.length c2, .slice A3 t.f3.length c3, .slice A4 t.f4.length c4] 26)).heap.size) := ⟨hb1.size⟩
  have hpg : w.heap.size ≠ g := by have := blk_lt hF.blk; omega
  have HG := Aside0.mk hg
  have HK4 : Aside0 (t.f4.length = 0) := ⟨by rw [hk]; rfl⟩
  have hf0 : (t.f0 == 1) = true := by simp [h1]
  have hpo : Aside0 (some w.heap.size ≠ (Value.slice A xs.length c).ownBlock) := ⟨fun he => by have := HO.out _ he.symm; omega⟩
  clear hF hb1 hg h1 hk
  go_enter Tryd.func35, Tryd.ntmps35
  go_upto_region 1 with fail
  generalize (w.alloc (.cells #[.int .i64 t.f0, .bool t.f1, .slice A2 t.f2.length c2, .slice A3 t.f3.length c3, .slice A4 t.f4.length c4] 26)) = wa at *
  obtain ⟨pp, hpp⟩ : ∃ q, w.heap.size = q := ⟨_, rfl⟩
  rw [hpp] at HP1 hpg hpo ⊢
  have HPP := Aside0.mk hpp
  clear hpp
  obtain ⟨x0, x1, x2, x3, x4⟩ := cells5 HP1.out
  have g0 : wa.cell? ⟨g, 0, none⟩ = some (.slice A xs.length c) := (blk_cell HF1.out.blk 0).trans rfl
  go_upto_region 2 with fail
  have hal := below_alloc (Below.refl wa.heap.size wa) (.cells #[.string p] 9)
  have HA := Aside0.mk (heap_alloc_new wa (.cells #[.string p] 9))
  have HF2 := Aside0.mk (HF1.out.below hal)
  have HP2 := Aside0.mk (blk_alloc HP1.out (.cells #[.string p] 9))
  have HK2 : Aside0 (KeepBut w (wa.alloc (.cells #[.string p] 9)) g (Value.slice A xs.length c).ownBlock) := ⟨HK1.out.trans (KeepBut.of_below hal g _) (.inl rfl)⟩
  have hsz2 := hal.size
  go_wp2_with (at_builtin; refine hold_ ?_)
  refine ⟨?_⟩
  refine Kd.R_append_rows Kd.string (w0 := w0) w0.heap.size rfl (.tmp 15) (.tmp 17) 23 9 (.string ByteArray.empty) 16 rfl Tryd.underlying23 info9 rfl (by decide) (by omega) (.slice A xs.length c) xs [p] _ _ _ (fun _ => True) (fun _ => False) rfl rfl HF2.out.r (row1 HA.out) (fun q c h => by rw [h]; rfl) (fun _ h => h.elim) (fun _ _ => trivial) HF2.out.bel HF2.out.bel.size (by omega) ?_
  intro v1 w4 hr4 hb4 hg4 hat4
  obtain ⟨A', c', rfl⟩ := Kd.R_slice hr4
  have HR4 := Aside0.mk hr4
  have HB4 := Aside0.mk hb4
  have HG4 : Aside0 (w4.heap[g]? = some (.cells #[.slice A xs.length c] 23 (0, 0))) := ⟨(hg4.block _ (blk_lt HF2.out.blk) (Kd.R_ne HF2.out.r HF2.out.blk (by decide))).trans HF2.out.blk⟩
  have HP4 : Aside0 (w4.heap[pp]? = _) := ⟨(hg4.block _ (blk_lt HP2.out) hpo.out).trans HP2.out⟩
  have HK4' : Aside0 (KeepBut w w4 g (Value.slice A xs.length c).ownBlock) := ⟨HK2.out.trans (KeepBut.of_grown hg4 g) (.inl rfl)⟩
  have HAT : Aside0 ((Value.slice A' (xs ++ [p]).length c').ownBlock = (Value.slice A xs.length c).ownBlock ∨ ∃ b, (Value.slice A' (xs ++ [p]).length c').ownBlock = some b ∧ w.heap.size ≤ b) := ⟨hat4.imp id (fun ⟨b, h1, h2⟩ => ⟨b, h1, by have := HSZ.out; omega⟩)⟩
  obtain ⟨nn, hnn⟩ : ∃ q, (xs ++ [p]).length = q := ⟨_, rfl⟩
  have HNN := Aside0.mk hnn
  clear hr4 hb4 hg4 hat4 HF2 HP2 HK2 HA HF1 HP1 HK1 x0 x1 x2 x3 x4 g0 hal hsz2
  have HFE : Aside0 (FL w0 (w4.setCell ⟨g, 0, none⟩ (.slice A' (xs ++ [p]).length c')) g A' c' (xs ++ [p])) := ⟨{ blk := by simpa using blk_set HG4.out 0 (.slice A' (xs ++ [p]).length c'), r := Kd.R_set HR4.out HG4.out (by decide) 0 _, bel := below_set HB4.out HG.out }⟩
  have HKE := Aside0.mk (HK4'.out.set_ 0 (.slice A' (xs ++ [p]).length c'))
  have HPE := Aside0.mk (blk_far HP4.out (p := ⟨g, 0, none⟩) hpg (.slice A' (xs ++ [p]).length c'))
  have g0 : w4.cell? ⟨g, 0, none⟩ = some (.slice A xs.length c) := (blk_cell HG4.out 0).trans rfl
  have gf0 : w4.frozen? ⟨g, 0, none⟩ = false := blk_frozen HG4.out 0
  rw [hnn] at HFE HKE HPE HAT ⊢
  clear hnn
  go_upto_region 3 with fail
  generalize (w4.setCell ⟨g, 0, none⟩ (.slice A' nn c')) = w5 at *
  obtain ⟨x0, x1, x2, x3, x4⟩ := cells5 HPE.out
  clear g0 gf0
  go_wp2_with fail
  go_loopw [23] (fun v wr => v = .int .i64 0 ∧ wr = w5) (fun _ _ => 0)
  case atStart => exact ⟨rfl, rfl⟩
  case round =>
    obtain ⟨rfl, rfl⟩ := hrel
    have hk4 := HK4.out
    go_wp2_with fail
    refine bodyPost_end (v := .tuple #[]) (by simp [results, Tryd.results35, go_sem]) rfl ⟨rfl, A', c', ?_, HKE.out, ?_⟩
    · exact HFE.out
    · have := HAT.out; rw [← HNN.out] at this; exact this
set_option maxRecDepth 20000 in
set_option maxHeartbeats 2000000 in
theorem files_dir (w0 : World) (N : Nat) (ih : CF w0 N) (t : S26) (A2 : Option Addr) (c2 : Nat) (A3 : Option Addr) (c3 : Nat) (A4 : Option Addr) (c4 : Nat) (p : ByteArray) (w : World) (g : Nat) (A : Option Addr) (c : Nat) (xs : List ByteArray) (h1 : t.f0 ≠ 1) (ht : TR w0 t A2 c2 A3 c3 A4 c4) (hlen : t.f3.length = t.f4.length) (d : Nat) (hch : ∀ u ∈ t.f4, CHK N (d + 1) u) (hd : d ≤ 64) (hps : p.size ≤ 200 * d) (hnm : ∀ s ∈ t.f3, isE s = true) (hg : w0.heap.size ≤ g) (hF : FL w0 w g A c xs) (hl : xs.length + (t.f4.map (cntN N)).sum ≤ 65536) (hl4 : t.f4.length ≤ 65536) :
  Calls Tryd.prog 35 #[TV t A2 c2 A3 c3 A4 c4, .string p, .pointer (some ⟨g, 0, none⟩)] w fun e w' => e = .returned (.tuple #[]) ∧ ∃ A' c', FL w0 w' g A' c' (xs ++ kidsF (filesS N) p t.f3 t.f4) ∧ KeepBut w w' g (Value.slice A xs.length c).ownBlock ∧ ((Value.slice A' (xs ++ kidsF (filesS N) p t.f3 t.f4).length c').ownBlock = (Value.slice A xs.length c).ownBlock ∨ ∃ b, (Value.slice A' (xs ++ kidsF (filesS N) p t.f3 t.f4).length c').ownBlock = some b ∧ w.heap.size ≤ b) := by
  have hb1 := below_alloc (Below.refl w.heap.size w) (.cells #[.int .i64 t.f0, .bool t.f1, .slice A2 t.f2.length c2, .slice A3 t.f3.length c3, .slice A4 t.f4.length c4] 26)
  have HF1 := Aside0.mk (hF.below hb1)
  have HP1 := Aside0.mk (heap_alloc_new w (.cells #[.int .i64 t.f0, .bool t.f1, .slice A2 t.f2.length c2, .slice A3 t.f3.length c3, .slice A4 t.f4.length c4] 26))
  obtain ⟨own, hown⟩ : ∃ q, (Value.slice A xs.length c).ownBlock = q := ⟨_, rfl⟩
  have HOWN := Aside0.mk hown
  rw [hown]
  have HK1 : Aside0 (KeepBut w (w.alloc (.cells #[.int .i64 t.f0, .bool t.f1, .slice A2 t.f2.length c2, .slice A3 t.f3.length c3, .slice A4 t.f4.length c4] 26)) g own) := ⟨KeepBut.of_below hb1 g _⟩
  have hpg : w.heap.size ≠ g := by have := blk_lt hF.blk; omega
  have HG := Aside0.mk hg
  have IH := Aside0.mk ih
  have HT := Aside0.mk ht
  have HLEN := Aside0.mk hlen
  have HCH := Aside0.mk hch
  have HNM := Aside0.mk hnm
  have hps2 : p.size ≤ 12800 := by omega
  have HL := Aside0.mk hl
  have hf0 : (t.f0 == 1) = false := by simp [h1]
  clear hF hb1 hg h1 ih ht hlen hch hnm hl hown
  go_enter Tryd.func35, Tryd.ntmps35
  go_upto_region 1 with fail
  generalize (w.alloc (.cells #[.int .i64 t.f0, .bool t.f1, .slice A2 t.f2.length c2, .slice A3 t.f3.length c3, .slice A4 t.f4.length c4] 26)) = wa at *
  obtain ⟨pp, hpp⟩ : ∃ q, w.heap.size = q := ⟨_, rfl⟩
  rw [hpp] at HP1 hpg ⊢
  have HPP := Aside0.mk hpp
  clear hpp
  obtain ⟨x0, x1, x2, x3, x4⟩ := cells5 HP1.out
  go_wp2_with fail
  go_loopw [23] (fun v wr => ∃ (k : Nat) (A' : Option Addr) (c' : Nat) (ys : List ByteArray), v = .int .i64 (k : Int) ∧ k ≤ t.f4.length ∧ Aside0 (xs ++ kidsF (filesS N) p t.f3 t.f4 = ys ++ kidsF (filesS N) p (t.f3.drop k) (t.f4.drop k)) ∧ Aside0 (ys.length + ((t.f4.drop k).map (cntN N)).sum ≤ 65536) ∧ Aside0 (FL w0 wr g A' c' ys) ∧ Aside0 (wr.heap[pp]? = some (.cells #[.int .i64 t.f0, .bool t.f1, .slice A2 t.f2.length c2, .slice A3 t.f3.length c3, .slice A4 t.f4.length c4] 26)) ∧ Aside0 (KeepBut w wr g own) ∧ Aside0 ((Value.slice A' ys.length c').ownBlock = own ∨ ∃ b, (Value.slice A' ys.length c').ownBlock = some b ∧ w.heap.size ≤ b)) (fun v _ => t.f4.length - (intOf v).toNat)
  case atStart => exact ⟨0, A, c, xs, rfl, Nat.zero_le _, ⟨rfl⟩, ⟨HL.out⟩, HF1, HP1, HK1, ⟨.inl HOWN.out⟩⟩
  case round =>
    clear HF1 HP1 HK1 x0 x1 x2 x3 x4 HL
    obtain ⟨k, A', c', ys, rfl, hk, HE, HL, HF, HP, HK, HAT⟩ := hrel
    by_cases hlt : k < t.f4.length
    · obtain ⟨ad, B2, d2, B3, d3, B4, d4, hA, e0, e1, e2, e3, e4, r1, r2, r3, r4, r5, r6⟩ := at_T26 HT.out.2.2.2.2.2 (k : Int) (by omega) (by omega)
      obtain ⟨ad3, hA3, hcn⟩ := Kd.at_string HT.out.2.2.2.1 (k : Int) (by omega) (by have := HLEN.out; omega)
      obtain ⟨u, hu⟩ : ∃ x, rd_T26 t.f4 (k : Int) = x := ⟨_, rfl⟩
      have hue : t.f4[k] = u := by rw [← hu, rdT hlt]
      have HLT3 : Aside0 (k < t.f3.length) := ⟨by have := HLEN.out; omega⟩
      obtain ⟨nm, hnm⟩ : ∃ x, rdOf ByteArray.empty t.f3 (k : Int) = x := ⟨_, rfl⟩
      have hne : t.f3[k]'HLT3.out = nm := by rw [← hnm, rdB HLT3.out]
      rw [hnm] at hcn
      rw [hu] at e0 e1 e2 e3 e4 r1 r2 r3 r4 r5 r6
      rw [Int.toNat_natCast] at e0 e1 e2 e3 e4 hcn
      have hns : nm.size ≤ 100 := isE_100 (HNM.out nm (by rw [← hne]; exact List.getElem_mem HLT3.out))
      have HUS : Aside0 ((und p nm).size ≤ 200 * (d + 1)) := ⟨und_size hns hps⟩
      have HCU : Aside0 (CHK N (d + 1) u) := ⟨hue ▸ HCH.out _ (List.getElem_mem hlt)⟩
      have HTR : Aside0 (TR w0 u B2 d2 B3 d3 B4 d4) := ⟨⟨r1, r2, r3, r4, r5, r6⟩⟩
      have hal := below_alloc (Below.refl wr.heap.size wr) (.cells #[.int .i64 u.f0, .bool u.f1, .slice B2 u.f2.length d2, .slice B3 u.f3.length d3, .slice B4 u.f4.length d4] 26)
      have f0 := pw_cell_below HF.out.bel e0
      have f1 := pw_cell_below HF.out.bel e1
      have f2 := pw_cell_below HF.out.bel e2
      have f3 := pw_cell_below HF.out.bel e3
      have f4 := pw_cell_below HF.out.bel e4
      have hcn1 := pw_cell_below (HF.out.below hal).bel hcn
      have HE2 : Aside0 (xs ++ kidsF (filesS N) p t.f3 t.f4 = (ys ++ filesS N u (und p nm)) ++ kidsF (filesS N) p (t.f3.drop (k + 1)) (t.f4.drop (k + 1))) := ⟨by rw [HE.out, List.drop_eq_getElem_cons hlt, List.drop_eq_getElem_cons HLT3.out, hue, hne, kidsF, List.append_assoc]⟩
      have HL2 : Aside0 (ys.length + cntN N u + ((t.f4.drop (k + 1)).map (cntN N)).sum ≤ 65536) := ⟨by have := HL.out; rw [List.drop_eq_getElem_cons hlt, hue, List.map_cons, List.sum_cons] at this; omega⟩
      subst hA
      subst hA3
      clear hue hne hu hnm e0 e1 e2 e3 e4 r1 r2 r3 r4 r5 r6 hcn HE HL
      have HFb := Aside0.mk (HF.out.below hal)
      have HPb := Aside0.mk (blk_alloc HP.out (.cells #[.int .i64 u.f0, .bool u.f1, .slice B2 u.f2.length d2, .slice B3 u.f3.length d3, .slice B4 u.f4.length d4] 26))
      have HUb := Aside0.mk (heap_alloc_new wr (.cells #[.int .i64 u.f0, .bool u.f1, .slice B2 u.f2.length d2, .slice B3 u.f3.length d3, .slice B4 u.f4.length d4] 26))
      have HKb : Aside0 (KeepBut w (wr.alloc (.cells #[.int .i64 u.f0, .bool u.f1, .slice B2 u.f2.length d2, .slice B3 u.f3.length d3, .slice B4 u.f4.length d4] 26)) g own) := ⟨HK.out.trans (KeepBut.of_below hal g own) (.inl rfl)⟩
      have hk3 : (k : Int) < (t.f3.length : Int) := by have := HLT3.out; omega
      clear hal HF HP HK
      go_upto_region 6 with fail
      generalize (wr.alloc (.cells #[.int .i64 u.f0, .bool u.f1, .slice B2 u.f2.length d2, .slice B3 u.f3.length d3, .slice B4 u.f4.length d4] 26)) = wb at *
      generalize wr.heap.size = pb at *
      clear f0 f1 f2 f3 f4
      obtain ⟨x0, x1, x2, x3, x4⟩ := cells5 HPb.out
      go_upto_region 7 with fail
      clear x0 x1 x2 x3 x4 hcn1
      obtain ⟨b0, b1, b2, b3, b4⟩ := cells5 HUb.out
      have HCALL := Aside0.mk (IH.out u B2 d2 B3 d3 B4 d4 (und p nm) wb g A' c' ys (d + 1) HTR.out HCU.out HUS.out HG.out HFb.out (by have := HL2.out; omega))
      have HPN : Aside0 (some pp ≠ (Value.slice A' ys.length c').ownBlock) := ⟨Kd.R_ne HFb.out.r HPb.out (by decide)⟩
      cases hp : (p.toList == []) with
      | true =>
        have hu : und p nm = nm := by unfold und; rw [if_pos hp]
        rw [hu] at HCALL HE2
        clear hu
        go_wp2_with fail
        refine HCALL.out.mono ?_
        rintro e_ w7 ⟨rfl, A7, c7, hf7, hk7, hat7⟩
        have HF7 := Aside0.mk hf7
        have HP7 : Aside0 (w7.heap[pp]? = some (.cells #[.int .i64 t.f0, .bool t.f1, .slice A2 t.f2.length c2, .slice (some ad3) t.f3.length c3, .slice (some ad) t.f4.length c4] 26)) := ⟨(hk7.2 _ (blk_lt HPb.out) hpg HPN.out).trans HPb.out⟩
        have HK7 : Aside0 (KeepBut w w7 g own) := ⟨HKb.out.trans hk7 HAT.out⟩
        have HAT7 : Aside0 ((Value.slice A7 (ys ++ filesS N u (nm)).length c7).ownBlock = own ∨ ∃ b, (Value.slice A7 (ys ++ filesS N u (nm)).length c7).ownBlock = some b ∧ w.heap.size ≤ b) := ⟨by
          rcases hat7 with h9 | ⟨b, h9, h8⟩
          · rw [h9]; exact HAT.out
          · exact .inr ⟨b, h9, Nat.le_trans HKb.out.1 h8⟩⟩
        have HL7 : Aside0 ((ys ++ filesS N u (nm)).length + ((t.f4.drop (k + 1)).map (cntN N)).sum ≤ 65536) := ⟨by have h9 := HL2.out; have h8 := files_len N u (nm); rw [List.length_append]; omega⟩
        clear hf7 hk7 hat7 HCALL b0 b1 b2 b3 b4 HKb HPb HFb HUb HAT HL2
        go_wp2_with fail
        exact ⟨⟨k + 1, A7, c7, _, by go_num, by omega, HE2, HL7, HF7, HP7, HK7, HAT7⟩, by simp [intOf]; omega⟩
      | false =>
        have hu : und p nm = (p ++ ⟨#[47]⟩) ++ nm := by unfold und; rw [if_neg (by rw [hp]; simp)]
        rw [hu] at HCALL HE2
        clear hu
        go_wp2_with fail
        refine HCALL.out.mono ?_
        rintro e_ w7 ⟨rfl, A7, c7, hf7, hk7, hat7⟩
        have HF7 := Aside0.mk hf7
        have HP7 : Aside0 (w7.heap[pp]? = some (.cells #[.int .i64 t.f0, .bool t.f1, .slice A2 t.f2.length c2, .slice (some ad3) t.f3.length c3, .slice (some ad) t.f4.length c4] 26)) := ⟨(hk7.2 _ (blk_lt HPb.out) hpg HPN.out).trans HPb.out⟩
        have HK7 : Aside0 (KeepBut w w7 g own) := ⟨HKb.out.trans hk7 HAT.out⟩
        have HAT7 : Aside0 ((Value.slice A7 (ys ++ filesS N u (p ++ ⟨#[47]⟩ ++ nm)).length c7).ownBlock = own ∨ ∃ b, (Value.slice A7 (ys ++ filesS N u (p ++ ⟨#[47]⟩ ++ nm)).length c7).ownBlock = some b ∧ w.heap.size ≤ b) := ⟨by
          rcases hat7 with h9 | ⟨b, h9, h8⟩
          · rw [h9]; exact HAT.out
          · exact .inr ⟨b, h9, Nat.le_trans HKb.out.1 h8⟩⟩
        have HL7 : Aside0 ((ys ++ filesS N u ((p ++ ⟨#[47]⟩) ++ nm)).length + ((t.f4.drop (k + 1)).map (cntN N)).sum ≤ 65536) := ⟨by have h9 := HL2.out; have h8 := files_len N u ((p ++ ⟨#[47]⟩) ++ nm); rw [List.length_append]; omega⟩
        clear hf7 hk7 hat7 HCALL b0 b1 b2 b3 b4 HKb HPb HFb HUb HAT HL2
        go_wp2_with fail
        exact ⟨⟨k + 1, A7, c7, _, by go_num, by omega, HE2, HL7, HF7, HP7, HK7, HAT7⟩, by simp [intOf]; omega⟩
    · have hkk : k = t.f4.length := by omega
      have HE3 : Aside0 (xs ++ kidsF (filesS N) p t.f3 t.f4 = ys) := ⟨by rw [HE.out, hkk, List.drop_length, kidsF, List.append_nil]; exact fun _ _ _ _ _ h => by cases h⟩
      go_wp2_with fail
      refine bodyPost_end (v := .tuple #[]) (by simp [results, Tryd.results35, go_sem]) rfl ⟨rfl, A', c', by rw [HE3.out]; exact HF.out, HK.out, by rw [HE3.out]; exact HAT.out⟩
theorem files_any (w0 : World) : ∀ N, CF w0 N := by
  intro N
  induction N with
  | zero =>
    intro t A2 c2 A3 c3 A4 c4 p w g A c xs d ht hc
    exact hc.1.elim
  | succ N ih =>
    intro t A2 c2 A3 c3 A4 c4 p w g A c xs d ht hc hps hg hF hl
    obtain ⟨k1, k2, k3, k4, k5⟩ := hc.node
    rw [cntN] at hl
    rw [filesS]
    by_cases h1 : t.f0 = 1
    · rw [if_pos h1]
      exact files_leaf w0 N t A2 c2 A3 c3 A4 c4 p w g A c xs h1 (formE_file k1 h1).2 hg hF (by omega)
    · rw [if_neg h1]
      exact files_dir w0 N ih t A2 c2 A3 c3 A4 c4 p w g A c xs h1 ht k3 d k5 k4 hps (names_ent k2) hg hF (by omega) (by have := cnt_len N t.f4 hc.1.2.2.2.2.2; omega)
end Go.Proofs.YtfnofjcdaghniaaDoor.Tree
/- tree.Files. Own work. -/
namespace Go.Proofs.YtfnofjcdaghniaaDoor.Tree
set_option linter.unusedVariables false
set_option linter.unusedSimpArgs false
open Go.RowKit Go.Proofs.YtfnofjcdaghniaaDoor.PL Go.Proofs.YtfnofjcdaghniaaDoor.Mt Go.Proofs.YtfnofjcdaghniaaDoorW.PrintWords Go.Proofs.YtfnofjcdaghniaaDoorW.PrintLast Go.Proofs.YtfnofjcdaghniaaDoorW.PrintMore
theorem chk_cnt : ∀ (N : Nat) (t : S26) (d n : Nat), GT N t → (chk N t d n).1 = 0 → (chk N t d n).2 = n + cntN N t := by
  intro N
  induction N with
  | zero => intro t d n hG; exact hG.elim
  | succ N ih =>
    intro t d n hG h
    obtain ⟨-, -, -, -, h5⟩ := chk_node h
    rw [h5] at h ⊢
    rw [cntN]
    have : ∀ (l : List S26) (m : Nat), (∀ a ∈ l, GT N a) → (kidsC (fun u m => chk N u (d + 1) m) l m).1 = 0 → (kidsC (fun u m => chk N u (d + 1) m) l m).2 = m + (l.map (cntN N)).sum := by
      intro l
      induction l with
      | nil => intro m _ _; rfl
      | cons a l ih2 =>
        intro m hl hh
        rw [kidsC] at hh ⊢
        by_cases h0 : (chk N a (d + 1) m).1 ≠ 0
        · rw [if_pos h0] at hh; exact absurd hh h0
        · rw [if_neg h0] at hh ⊢
          rw [ih2 _ (fun b hb => hl b (List.mem_cons_of_mem _ hb)) hh, ih a (d + 1) m (hl a List.mem_cons_self) (Classical.not_not.1 h0), List.map_cons, List.sum_cons]
          omega
    rw [this t.f4 (n + 1) hG.2.2.2.2.2 h]
    omega
def sortS (xs : List ByteArray) : List ByteArray := ((xs.map ByteArray.toList).mergeSort (fun x y => decide (x ≤ y))).map (fun l => ⟨l.toArray⟩)
theorem sortS_len (xs : List ByteArray) : (sortS xs).length = xs.length := by simp [sortS]
theorem of_toList (s : ByteArray) : (⟨s.toList.toArray⟩ : ByteArray) = s := by
  cases s with
  | mk d => rw [toList_data]
theorem sort_any (base : Nat) (w : World) (v : Value) (xs : List ByteArray) (hR : Kd.string.R 9 w base (fun _ => True) v xs) (hl : xs.length ≤ 1000000) :
    Calls Tryd.prog 36 #[v] w fun e w' => e = .returned (.tuple #[]) ∧ Kd.string.R 9 w' base (fun _ => True) v (sortS xs) ∧ w.grownBy w' v.ownBlock := by
  have hown := Kd.own_of_R hR
  have he : xs.map Value.string = (xs.map ByteArray.toList).map encStr := by
    rw [List.map_map]
    exact List.map_congr_left (fun s _ => by show Value.string s = Value.string ⟨s.toList.toArray⟩; rw [of_toList])
  have hown2 : w.ownsRow base 9 1 v (xs.map ByteArray.toList).length ((xs.map ByteArray.toList).map encStr) := by rw [← he, List.length_map]; exact hown
  rcases hown2.2 with ⟨hnil, _⟩ | ⟨g, cap, cur, rfl, hbase, hb, h1, h2, h3, h4⟩
  · subst hnil
    have : xs = [] := by
      obtain ⟨hn, -, -⟩ := Kd.R_reads' hR
      exact List.eq_nil_of_length_eq_zero hn.symm
    subst this
    refine (Tryd.slices_Sort_string_none none 0 w).mono ?_
    rintro e w' ⟨rfl, rfl⟩
    exact ⟨rfl, by rw [show sortS [] = [] from by simp [sortS]]; exact hR, ⟨rfl, rfl, rfl, Nat.le_refl _, fun _ _ _ => rfl⟩⟩
  · have hH := holds_of_block (ss := xs.map ByteArray.toList) hb (by rw [Nat.mul_one] at h4; exact h4)
    refine (Tryd.slices_Sort_string g 0 cap (xs.map ByteArray.toList) w hH (Array.getElem?_eq_some_iff.1 hb).1 (by simp; omega)).mono ?_
    rintro e w' ⟨rfl, n, os, rfl⟩
    have ho := ownsRow_sorted (n := n) (os := os) (ss := xs.map ByteArray.toList) (ts := (xs.map ByteArray.toList).mergeSort fun x y => decide (x ≤ y)) (by simp) hbase hb h1 h2 h3
    have hg := grownBy_sorted (w := w) (g := g) (n := n) (os := os) ((xs.map ByteArray.toList).mergeSort fun x y => decide (x ≤ y)).toArray
    refine ⟨rfl, ?_, hg⟩
    refine Kd.R_of_own (h1 := fun _ => rfl) (enc := Value.string) ?_ (fun _ _ => trivial)
    have e2 : ((xs.map ByteArray.toList).mergeSort fun x y => decide (x ≤ y)).map encStr = (sortS xs).map Value.string := by
      rw [sortS, List.map_map]; rfl
    rw [e2] at ho
    rw [sortS_len]
    simpa [encs] using ho
noncomputable def FilesS (N : Nat) (t : S26) : List ByteArray := if (chk N t 1 0).1 ≠ 0 then [] else sortS (filesS N t ⟨#[]⟩)
theorem filesS_le {N : Nat} {t : S26} (hG : GT N t) (h : (chk N t 1 0).1 = 0) : cntN N t ≤ 65536 ∧ (filesS N t ⟨#[]⟩).length ≤ 65536 := by
  have h1 := chk_cnt N t 1 0 hG h
  have h2 := chk_le N t 1 0 (by omega) h
  have h3 := files_len N t ⟨#[]⟩
  omega
set_option maxRecDepth 20000 in
set_option maxHeartbeats 2000000 in
theorem Files_any (N : Nat) (t : S26) (A2 : Option Addr) (c2 : Nat) (A3 : Option Addr) (c3 : Nat) (A4 : Option Addr) (c4 : Nat) (w : World) (ht : TR w t A2 c2 A3 c3 A4 c4) (hG : GT N t) :
    Calls Tryd.prog 17 #[TV t A2 c2 A3 c3 A4 c4] w fun e w' => ∃ A c, e = .returned (.slice A (FilesS N t).length c) ∧ (FilesS N t).length ≤ c ∧ Kd.string.C w' A (FilesS N t).length (FilesS N t) ∧ Below w.heap.size w w' := by
  have hb1 := below_alloc (Below.refl w.heap.size w) (.cells #[.int .i64 t.f0, .bool t.f1, .slice A2 t.f2.length c2, .slice A3 t.f3.length c3, .slice A4 t.f4.length c4] 26)
  have HB1 := Aside0.mk hb1
  have HP1 := Aside0.mk (heap_alloc_new w (.cells #[.int .i64 t.f0, .bool t.f1, .slice A2 t.f2.length c2, .slice A3 t.f3.length c3, .slice A4 t.f4.length c4] 26))
  have HT := Aside0.mk ht
  have HG := Aside0.mk hG
  clear ht hG hb1
  go_enter Tryd.func17, Tryd.ntmps17
  go_upto_region 1 with fail
  generalize (w.alloc (.cells #[.int .i64 t.f0, .bool t.f1, .slice A2 t.f2.length c2, .slice A3 t.f3.length c3, .slice A4 t.f4.length c4] 26)) = w1 at *
  obtain ⟨pp, hpp⟩ : ∃ q, w.heap.size = q := ⟨_, rfl⟩
  rw [hpp] at HP1 HB1 ⊢
  have HPP := Aside0.mk hpp
  clear hpp
  obtain ⟨x0, x1, x2, x3, x4⟩ := cells5 HP1.out
  go_wp2_with fail
  clear x0 x1 x2 x3 x4
  refine (Check_any N t A2 c2 A3 c3 A4 c4 w1 (HT.out.below (HPP.out ▸ HB1.out)) HG.out).mono ?_
  rintro e w2 ⟨rfl, hb⟩
  have HB2 := Aside0.mk (below_then HB1.out (by rw [← HPP.out]; exact (HPP.out ▸ HB1.out : Below w.heap.size w w1).size) hb)
  have HP2 := Aside0.mk ((hb.block _ (blk_lt HP1.out)).trans HP1.out)
  clear hb HP1 HB1
  obtain ⟨k, hk⟩ : ∃ q, (chk N t 1 0).1 = q := ⟨_, rfl⟩
  rw [hk]
  have HK := Aside0.mk hk
  clear hk
  by_cases hz : k = 0
  rotate_left
  · have hkb : (k != 0) = true := by simpa using hz
    have HE : Aside0 (FilesS N t = []) := ⟨by unfold FilesS; rw [if_pos (by rw [HK.out]; exact hz)]⟩
    clear hz
    go_wp2_with fail
    refine bodyPost_ret (v := .slice none 0 0) (by simp [results, Tryd.results17, go_sem]) rfl ?_
    rw [HE.out]
    exact ⟨none, 0, rfl, Nat.le_refl _, Kd.C_nil _ _, HPP.out ▸ HB2.out⟩
  subst hz
  have HE : Aside0 (FilesS N t = sortS (filesS N t ⟨#[]⟩)) := ⟨by unfold FilesS; rw [if_neg (by rw [HK.out]; simp)]⟩
  have hz : ((0 : Int) != 0) = false := rfl
  go_upto_region 4 with fail
  have hal := below_alloc (Below.refl w2.heap.size w2) (.cells #[.slice none 0 0] 23)
  have HG3 := Aside0.mk (heap_alloc_new w2 (.cells #[.slice none 0 0] 23))
  have HP3 := Aside0.mk (blk_alloc HP2.out (.cells #[.slice none 0 0] 23))
  have HB3 := Aside0.mk (below_then HB2.out (Nat.le_of_lt (Nat.lt_of_lt_of_le (blk_lt HP2.out) (Nat.le_refl _))) hal)
  have HGP : Aside0 (pp < w2.heap.size) := ⟨blk_lt HP2.out⟩
  clear hal HP2 HB2
  generalize (w2.alloc (.cells #[.slice none 0 0] 23)) = w3 at *
  obtain ⟨g, hg⟩ : ∃ q, w2.heap.size = q := ⟨_, rfl⟩
  rw [hg] at HG3 HGP ⊢
  clear hg
  obtain ⟨x0, x1, x2, x3, x4⟩ := cells5 HP3.out
  go_upto_region 5 with fail
  clear x0 x1 x2 x3 x4
  have HFL : Aside0 (FL w w3 g none 0 []) := ⟨{ blk := HG3.out, r := Kd.R_nil _ _ _ _ _, bel := HPP.out ▸ HB3.out }⟩
  refine (files_any w N t A2 c2 A3 c3 A4 c4 ⟨#[]⟩ w3 g none 0 [] 1 HT.out ⟨HG.out, 0, by omega, HK.out⟩ (by decide) (by rw [HPP.out]; exact Nat.le_of_lt HGP.out) HFL.out (by have := (filesS_le HG.out HK.out).1; rw [List.length_nil]; omega)).mono ?_
  rintro e w4 ⟨rfl, A', c', hf, -, -⟩
  rw [List.nil_append] at hf
  have HLE := (filesS_le HG.out HK.out).2
  obtain ⟨l, hl⟩ : ∃ q, filesS N t ⟨#[]⟩ = q := ⟨_, rfl⟩
  rw [hl] at hf HLE HE
  have HF := Aside0.mk hf
  clear hf hl HFL HG3 HP3 HB3
  have g0 : w4.cell? ⟨g, 0, none⟩ = some (.slice A' l.length c') := (blk_cell HF.out.blk 0).trans rfl
  go_wp2_with fail
  clear g0
  refine (sort_any w.heap.size w4 _ l HF.out.r (by omega)).mono ?_
  rintro e w5 ⟨rfl, hr, hgr⟩
  have HG5 : Aside0 (w5.heap[g]? = some (.cells #[.slice A' l.length c'] 23 (0, 0))) := ⟨(hgr.block _ (blk_lt HF.out.blk) (Kd.R_ne HF.out.r HF.out.blk (by decide))).trans HF.out.blk⟩
  have HR := Aside0.mk hr
  have HB5 : Aside0 (Below w.heap.size w w5) := ⟨⟨hgr.os.trans HF.out.bel.os, hgr.tape.trans HF.out.bel.tape, hgr.output.trans HF.out.bel.output, Nat.le_trans HF.out.bel.size hgr.size, fun i hi => (hgr.block i (Nat.lt_of_lt_of_le hi HF.out.bel.size) (fun he => by have := Kd.R_base HF.out.r i he.symm; omega)).trans (HF.out.bel.block i hi)⟩⟩
  clear hr hgr
  have g0 : w5.cell? ⟨g, 0, none⟩ = some (.slice A' l.length c') := (blk_cell HG5.out 0).trans rfl
  go_wp2_with fail
  refine bodyPost_ret (v := .slice A' l.length c') (by simp [results, Tryd.results17, go_sem]) rfl ?_
  rw [HE.out]
  obtain ⟨hn, hc, hC⟩ := Kd.R_reads' HR.out
  rw [← hn]
  exact ⟨A', c', rfl, hc, by rw [hn]; exact hC, HB5.out⟩
end Go.Proofs.YtfnofjcdaghniaaDoor.Tree
