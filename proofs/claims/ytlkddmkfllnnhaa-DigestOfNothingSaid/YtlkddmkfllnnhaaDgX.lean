/- digest: FromHex. Own work. -/
import Derived.Test.YtlkddmkfllnnhaaDgO
namespace Go.Proofs.Ytlkddmkfllnnhaa.Dg
set_option linter.unusedVariables false
set_option linter.unusedSimpArgs false
open Go.RowKit Go.Proofs.Ytlkddmkfllnnhaa.Md Go.Proofs.Ytlkddmkfllnnhaa.PL Go.Proofs.YtlkddmkfllnnhaaW.PrintWords Go.Proofs.YtlkddmkfllnnhaaW.PrintLast Go.Proofs.YtlkddmkfllnnhaaW.PrintMore
theorem results_row_tmp {P : Program} {fn : Func} {p q : Tmp} {ty : TypeId} (h : fn.results = #[.cell p ty, .tmp q]) (tmps : Array Value) (w : World) (g : Nat) (t : TypeId) (cs : Array Value) (fr : Nat × Nat) (d : TypeDesc)
    (hp : tmps.getD p undef = .pointer (some ⟨g, 0, none⟩)) (hg : w.heap[g]? = some (.cells cs t fr))
    (hu : P.underlying ty = some d) (hd : (match d with | .struct _ | .array _ _ => true | _ => false) = true) (hi : (P.info? ty).map (·.size) = some cs.size) (v : Value) (hq : tmps.getD q undef = v) :
    (results fn tmps).run P w = .ok (.tuple #[.agg cs, v]) w := by
  have hp' : tmps[p]?.getD undef = .pointer (some ⟨g, 0, none⟩) := by simpa using hp
  have hq' : tmps[q]?.getD undef = v := by simpa using hq
  simp [results, h, hp', hq', asAddr, run_loadVar_row w g t ty cs fr d hg hu hd hi]
def isHex (c : Int) : Bool := (decide (48 ≤ c) && decide (c ≤ 57)) || (decide (97 ≤ c) && decide (c ≤ 102))
def nib (c : Int) : Int := if c ≤ 57 then c - 48 else c - 87
def hx (l : List Int) : Nat → List Int
  | 0 => List.replicate 32 0
  | k + 1 => (hx l k).set (k / 2) (((hx l k).getD (k / 2) 0 * 16 + nib (l.getD k 0)) % 256)
theorem hx_len (l : List Int) (k : Nat) : (hx l k).length = 32 := by
  induction k with
  | zero => rfl
  | succ k ih => rw [hx, List.length_set, ih]
theorem hx_B8 (l : List Int) (k : Nat) : B8 (hx l k) := by
  induction k with
  | zero => exact B8.rep _
  | succ k ih => exact ih.set _ (by omega) (by omega)
theorem nib_r {c : Int} (h : isHex c = true) : 0 ≤ nib c ∧ nib c < 16 := by
  unfold isHex at h; unfold nib
  simp at h
  split <;> omega
theorem or16 (x n : Int) (h0 : 0 ≤ n) (h1 : n < 16) : Go.bits .or .u8 (x * 16 % 256) n = (x * 16 + n) % 256 := by
  obtain ⟨m, rfl⟩ := Int.eq_ofNat_of_zero_le h0
  obtain ⟨c, hc⟩ : ∃ c : Nat, x * 16 % 256 = ((c * 16 : Nat) : Int) := ⟨(x % 16).toNat, by omega⟩
  have hc16 : c < 16 := by omega
  rw [hc, bits_or_nat .u8 8 (by decide) (fun n h0 h1 => wu8 h0 (by simpa using h1)) _ _ (by show _ < 256; omega) (by show _ < 256; omega), Nat.or_comm, show c * 16 = c * 2 ^ 4 from rfl, or_low 4 m c (by omega)]
  omega
/-- what digits say -/
def fhOk (l : List Int) : Bool := decide (l.length = 64) && l.all isHex
def fhL (l : List Int) : List Int := if fhOk l = true then hx l 64 else List.replicate 32 0
def fhE (l : List Int) : Int := if fhOk l = true then 0 else 3
theorem fhL_len (l : List Int) : (fhL l).length = 32 := by unfold fhL; split <;> simp [hx_len]
theorem fhL_B8 (l : List Int) : B8 (fhL l) := by
  unfold fhL; split
  · exact hx_B8 _ _
  · exact B8.rep _
def Upto (l : List Int) (k : Nat) : Prop := ∀ j, j < k → isHex (l.getD j 0) = true
theorem fh_bad (l : List Int) (k : Nat) (hk : k < l.length) (h : isHex (l.getD k 0) = false) : fhL l = List.replicate 32 0 ∧ fhE l = 3 := by
  have hf : fhOk l = false := by
    cases hq : fhOk l with
    | false => rfl
    | true =>
      unfold fhOk at hq
      simp only [Bool.and_eq_true, List.all_eq_true] at hq
      have := hq.2 (l.getD k 0) (by rw [List.getD_eq_getElem?_getD, List.getElem?_eq_getElem hk]; exact List.getElem_mem _)
      rw [h] at this
      cases this
  unfold fhL fhE
  rw [hf]
  exact ⟨rfl, rfl⟩
theorem fh_short (l : List Int) (h : l.length ≠ 64) : fhL l = List.replicate 32 0 ∧ fhE l = 3 := by
  unfold fhL fhE fhOk
  rw [decide_eq_false h]
  exact ⟨rfl, rfl⟩
theorem fh_good (l : List Int) (h : l.length = 64) (hu : Upto l 64) : fhL l = hx l 64 ∧ fhE l = 0 := by
  have hf : fhOk l = true := by
    unfold fhOk
    simp only [Bool.and_eq_true, List.all_eq_true, decide_eq_true_eq]
    refine ⟨h, fun x hx => ?_⟩
    obtain ⟨j, hj, rfl⟩ := List.getElem_of_mem hx
    have := hu j (by omega)
    rwa [List.getD_eq_getElem?_getD, List.getElem?_eq_getElem hj] at this
  unfold fhL fhE
  rw [hf]
  exact ⟨rfl, rfl⟩
def Z32 : Array Value := (nums .u8 (List.replicate 32 0)).toArray
/-- a state of the loop: what is laid, and the bytes -/
structure X1 (w wr : World) (g0 g1 : Nat) (hs l : List Int) : Prop where
  h : AB wr g0 25 hs
  c : ∀ j, j < l.length → wr.cell? ⟨g1, j, none⟩ = some (.int .u8 (l.getD j 0))
  b : Below w.heap.size w wr
theorem X1.put {w wr : World} {g0 g1 : Nat} {hs l : List Int} (h : X1 w wr g0 g1 hs l) (hne : g1 ≠ g0) (hw : w.heap.size ≤ g0) (k : Nat) (x : Int) : X1 w (wr.setCell ⟨g0, k, none⟩ (.int .u8 x)) g0 g1 (hs.set k x) l :=
  ⟨h.h.set k x, fun j hj => (World.cell?_setCell_other wr _ _ _ (by intro e; injection e with e; omega)).trans (h.c j hj), below_set h.b hw⟩
theorem ret_zero {wr : World} {g0 : Nat} {hs : List Int} (h : AB wr g0 25 hs) : AB (wr.setRow g0 Z32) g0 25 (List.replicate 32 0) := setRow_heap _ _ _ _ _ _ h
set_option maxHeartbeats 4000000 in
set_option maxRecDepth 100000 in
theorem fromhex_any (s : ByteArray) (hs : s.size ≤ 140737488355000) (w : World) : Calls Try.prog 18 #[.string s] w fun e w' => e = .returned (.tuple #[.agg (nums .u8 (fhL (bytesOf s))).toArray, .int .i64 (fhE (bytesOf s))]) ∧ Below w.heap.size w w' := by
  have hz : AB (w.alloc (.cells (nums .u8 (List.replicate 32 0)).toArray 25)) w.heap.size 25 (List.replicate 32 0) := heap_alloc_new w _
  have HZ := Aside0.mk hz
  clear hz
  by_cases h64 : s.size = 64
  · have hr := bytes_reads (w.alloc (.cells (nums .u8 (List.replicate 32 0)).toArray 25)) 5 s (by omega)
    have hbb := bytes_below (below_alloc (Below.refl w.heap.size w) (.cells (nums .u8 (List.replicate 32 0)).toArray 25)) (by simp) 5 s
    have hb2 := bytes_below (Below.refl (w.alloc (.cells (nums .u8 (List.replicate 32 0)).toArray 25)).heap.size (w.alloc (.cells (nums .u8 (List.replicate 32 0)).toArray 25))) (Nat.le_refl _) 5 s
    have HX : Aside0 (X1 w (Lib.bytesWorld (w.alloc (.cells (nums .u8 (List.replicate 32 0)).toArray 25)) 5 s) w.heap.size (w.heap.size + 1) (List.replicate 32 0) (bytesOf s)) := by
      refine ⟨⟨(hb2.block _ (by simp)).trans HZ.out, fun j hj => ?_, hbb⟩⟩
      rw [bytesOf_length] at hj
      obtain ⟨ad, e, hc⟩ := hr.at_ (j : Int) (by omega) (by omega)
      injection e with e
      subst e
      rw [size_alloc, Int.toNat_natCast, add_plain, rd_nat] at hc
      exact hc
    clear hr hbb hb2
    have hcv := fun W => print_bytes (P := Try.prog) 9 22 5 Try.underlying9 Try.underlying22 Try.underlying5 s W
    have hb1 : ((s.size : Int) == 64) = true := by simp; omega
    have hb2 : ((s.size : Int) != 64) = false := by simp; omega
    have hlen : (bytesOf s).length = 64 := by rw [bytesOf_length]; exact h64
    have hss : s.size ≤ 64 := by omega
    have hs2 : 64 ≤ s.size := by omega
    obtain ⟨l, hl⟩ : ∃ l, bytesOf s = l := ⟨_, rfl⟩
    rw [hl] at hlen HX ⊢
    have HLE := Aside0.mk hlen
    clear h64 hl hlen HZ
    go_enter Try.func18, Try.ntmps18
    go_wp2
    clear hb1 hb2 hcv
    go_loopw [14] (fun i wr => ∃ (k : Nat), i = .int .i64 (k : Int) ∧ k ≤ 64 ∧ Aside0 (X1 w wr w.heap.size (w.heap.size + 1) (hx l k) l) ∧ Aside0 (Upto l k)) (fun i _ => 64 - (intOf i).toNat)
    case atStart => exact ⟨0, rfl, by omega, HX, ⟨fun j hj => by omega⟩⟩
    case round =>
      clear HX
      obtain ⟨k, rfl, hk, HX, HU⟩ := hrel
      by_cases hlt : k < 64
      · have c0 := HX.out.c k (by rw [HLE.out]; omega)
        have c1 := HX.out.h.cell (k / 2) (by rw [hx_len]; omega)
        have f1 := HX.out.h.fr (k / 2)
        obtain ⟨c, hc⟩ : ∃ c, l.getD k 0 = c := ⟨_, rfl⟩
        obtain ⟨x, hx0⟩ : ∃ c, (hx l k).getD (k / 2) 0 = c := ⟨_, rfl⟩
        rw [hc] at c0
        rw [hx0] at c1
        have HC := Aside0.mk hc
        have HX0 := Aside0.mk hx0
        clear hc hx0
        have e1 : ((k : Int) / 2).toNat = k / 2 := by omega
        have e2 : 0 ≤ (k : Int) / 2 := by omega
        have e3 : (k : Int) / 2 < 32 := by omega
        have hkd : decide ((k : Int) < (s.size : Int)) = true := decide_eq_true (by omega)
        have hkd2 : decide (k < s.size) = true := decide_eq_true (by omega)
        cases hh : isHex c with
        | true =>
          have HH := Aside0.mk hh
          have hn := nib_r hh
          have hU2 : Upto l (k + 1) := fun j hj => by
            by_cases h : j = k
            · subst h; rw [HC.out]; exact HH.out
            · exact HU.out j (by omega)
          have HU2 := Aside0.mk hU2
          by_cases h9 : c ≤ 57
          · have hnb : nib c = c - 48 := by unfold nib; rw [if_pos h9]
            have h48 : 48 ≤ c := by rw [hnb] at hn; omega
            have HNB := Aside0.mk hnb
            clear hnb hU2 hh hn HU
            go_wp2
            refine ⟨⟨k + 1, by go_num, by omega, ⟨?_⟩, HU2⟩, by simp [intOf]; omega⟩
            have := HX.out.put (by omega) (Nat.le_refl _) (k / 2) ((x * 16 + nib c) % 256)
            rw [hx, HX0.out, HC.out]
            rw [← or16 x (nib c) (by rw [HNB.out]; omega) (by rw [HNB.out]; omega), HNB.out] at this ⊢
            exact this
          · have hnb : nib c = c - 97 + 10 := by unfold nib; rw [if_neg h9]; omega
            have h48 : 97 ≤ c := by unfold isHex at hh; simp at hh; omega
            have h102 : c ≤ 102 := by rw [hnb] at hn; omega
            have HNB := Aside0.mk hnb
            clear hnb hU2 hh hn HU
            go_wp2
            refine ⟨⟨k + 1, by go_num, by omega, ⟨?_⟩, HU2⟩, by simp [intOf]; omega⟩
            have := HX.out.put (by omega) (Nat.le_refl _) (k / 2) ((x * 16 + nib c) % 256)
            rw [hx, HX0.out, HC.out]
            rw [← or16 x (nib c) (by rw [HNB.out]; omega) (by rw [HNB.out]; omega), HNB.out] at this ⊢
            exact this
        | false =>
          have hbad := fh_bad l k (by rw [HLE.out]; omega) (by rw [HC.out]; exact hh)
          have HBAD := Aside0.mk hbad
          have h3 : c < 48 ∨ (57 < c ∧ c < 97) ∨ 102 < c := by unfold isHex at hh; simp at hh; omega
          clear hbad hh
          rcases h3 with h3 | ⟨h3, h4⟩ | h3
          all_goals
            go_wp2_with (first | (refine wpList_build_eq rfl 25 _ rfl Z32 (by kernel_rfl) ?_) | (refine wpList_store_row rfl 25 (.tmp 2) (.tmp 19) rfl w.heap.size Z32 rfl rfl 25 _ HX.out.h (by rw [show Z32.size = 32 from by kernel_rfl]; kernel_rfl) (by rw [List.size_toArray, nums_length, hx_len]; kernel_rfl) (by kernel_rfl) ?_))
            exact bodyPost_ret (results_row_tmp rfl _ _ w.heap.size 25 _ (0, 0) _ rfl (ret_zero HX.out.h) Try.underlying25 rfl (by kernel_rfl) (.int .i64 3) rfl) rfl ⟨by rw [HBAD.out.1, HBAD.out.2], below_setRow HX.out.b (Nat.le_refl _) _⟩
      · have hkk : k = 64 := by omega
        subst hkk
        rw [show ((64 : Nat) : Int) = 64 from rfl]
        have hgd := fh_good l HLE.out HU.out
        have HGD := Aside0.mk hgd
        have hkd : decide ((64 : Int) < (s.size : Int)) = false := decide_eq_false (by omega)
        clear hgd
        go_wp2_with (first | (refine wpList_load_row rfl 25 (.tmp 2) rfl w.heap.size rfl 25 _ (0, 0) _ HX.out.h Try.underlying25 rfl (by rw [List.size_toArray, nums_length, hx_len]; kernel_rfl) ?_) | (refine wpList_store_row rfl 25 (.tmp 2) (.tmp 50) rfl w.heap.size _ rfl rfl 25 _ HX.out.h (by rw [List.size_toArray, nums_length, hx_len]; kernel_rfl) rfl (u8_one _) ?_))
        exact bodyPost_ret (results_row_tmp rfl _ _ w.heap.size 25 _ (0, 0) _ rfl (setRow_heap _ _ _ _ _ _ HX.out.h) Try.underlying25 rfl (by rw [List.size_toArray, nums_length, hx_len]; kernel_rfl) (.int .i64 0) rfl) rfl ⟨by rw [HGD.out.1, HGD.out.2], below_setRow HX.out.b (Nat.le_refl _) _⟩
  · have hb1 : ((s.size : Int) == 64) = false := by simp; omega
    have hb2 : ((s.size : Int) != 64) = true := by simp; omega
    have hsh := fh_short (bytesOf s) (by rw [bytesOf_length]; exact h64)
    have HSH := Aside0.mk hsh
    clear hsh
    go_enter Try.func18, Try.ntmps18
    go_wp2_with (first | (refine wpList_build_eq rfl 25 _ rfl Z32 (by kernel_rfl) ?_) | (refine wpList_store_row rfl 25 (.tmp 2) (.tmp 10) rfl w.heap.size Z32 rfl rfl 25 _ HZ.out (by kernel_rfl) (by kernel_rfl) (by kernel_rfl) ?_))
    exact bodyPost_ret (results_row_tmp rfl _ _ w.heap.size 25 _ (0, 0) _ rfl (ret_zero HZ.out) Try.underlying25 rfl (by kernel_rfl) (.int .i64 3) rfl) rfl ⟨by rw [HSH.out.1, HSH.out.2], below_setRow (below_alloc (Below.refl _ w) _) (Nat.le_refl _) _⟩
end Go.Proofs.Ytlkddmkfllnnhaa.Dg
