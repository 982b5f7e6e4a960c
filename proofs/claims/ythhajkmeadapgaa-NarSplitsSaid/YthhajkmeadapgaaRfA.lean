/- nar's reference: the reader's text. Own work. -/
import Derived.Test.YthhajkmeadapgaaDcM
namespace Go.Proofs.Ythhajkmeadapgaa.Tree
set_option linter.unusedVariables false
set_option linter.unusedSimpArgs false
open Go.RowKit Go.Proofs.Ythhajkmeadapgaa.PL Go.Proofs.Ythhajkmeadapgaa.Mn Go.Proofs.YthhajkmeadapgaaW.PrintWords Go.Proofs.YthhajkmeadapgaaW.PrintLast Go.Proofs.YthhajkmeadapgaaW.PrintMore
theorem up_step (out : List Int) (hb : B8 out) (ho : out.length = 8) (n : Nat) (hn : n < 8) :
    V (out.drop n) = (out.getD n 0).toNat + 256 * V (out.drop (n + 1)) ∧ V (out.drop (n + 1)) < 72057594037927936 := by
  refine ⟨?_, ?_⟩
  · rw [List.drop_eq_getElem_cons (by omega), V, List.getD_eq_getElem?_getD, List.getElem?_eq_getElem (by omega)]; rfl
  · have h1 := V_lt (hb.drop (n + 1))
    have h2 : (out.drop (n + 1)).length ≤ 7 := by rw [List.length_drop]; omega
    have h3 : 256 ^ (out.drop (n + 1)).length ≤ 256 ^ 7 := Nat.pow_le_pow_right (by decide) h2
    have : (256 : Nat) ^ 7 = 72057594037927936 := by decide
    omega
theorem or_hi (v b : Nat) (hb : b < 256) (hv : v < 72057594037927936) : Go.bits .or .u64 ((v : Int) * 256) (b : Int) = ((b + 256 * v : Nat) : Int) := by
  have e : (v : Int) * 256 = ((v * 2 ^ 8 : Nat) : Int) := by omega
  have h := u64_or_low 8 b v (by omega) (by omega)
  rw [e]
  have hq : ∀ x y : Nat, x < 18446744073709551616 → y < 18446744073709551616 → Go.bits .or .u64 (x : Int) (y : Int) = ((x ||| y : Nat) : Int) := fun x y hx hy =>
    bits_or_nat .u64 64 (by decide) (fun n h0 h1 => wu64 h0 (Int.lt_of_lt_of_le h1 (Int.le_of_eq (by decide +kernel)))) _ _ (by show _ < 18446744073709551616; omega) (by show _ < 18446744073709551616; omega)
  rw [hq b (v * 2 ^ 8) (by omega) (by omega)] at h
  rw [hq (v * 2 ^ 8) b (by omega) (by omega), Nat.or_comm, h]
  omega
/-- the reference's reader in block g, told -/
structure RR (w0 w : World) (g : Nat) (s : RS) (n : Nat) : Prop where
  blk : ∃ A c, w.heap[g]? = some (.cells #[.slice A s.1.length c, .int .i64 s.2, .int .i64 n] 83 (0, 0)) ∧ s.1.length ≤ c ∧ (Kd.int .u8).C w0 A s.1.length s.1
  b : Below w0.heap.size w0 w
  lo : w0.heap.size ≤ g
  b8 : B8 s.1
theorem RR.keep {w0 w w2 : World} {g : Nat} {s : RS} {n : Nat} (h : RR w0 w g s n) (hb : Below w.heap.size w w2) : RR w0 w2 g s n := by
  obtain ⟨A, c, h1, h2, h3⟩ := h.blk
  exact ⟨⟨A, c, (hb.block _ (blk_lt h1)).trans h1, h2, h3⟩, below_then h.b h.b.size hb, h.lo, h.b8⟩
/-- the first error, stored -/
theorem RR.err {w0 w : World} {g : Nat} {s : RS} {n : Nat} (h : RR w0 w g s n) (k : Int) : RR w0 (w.setCell ⟨g, 1, none⟩ (.int .i64 k)) g (s.1, k) n := by
  obtain ⟨A, c, h1, h2, h3⟩ := h.blk
  exact ⟨⟨A, c, by simpa using blk_set h1 1 (.int .i64 k), h2, h3⟩, below_set h.b h.lo, h.lo, h.b8⟩
theorem RR.rest {w0 w : World} {g : Nat} {s : RS} {n : Nat} (h : RR w0 w g s n) {A : Option Addr} {c : Nat} {r : List Int} (hc : r.length ≤ c) (hC : (Kd.int .u8).C w0 A r.length r) (h8 : B8 r) : RR w0 (w.setCell ⟨g, 0, none⟩ (.slice A r.length c)) g (r, s.2) n := by
  obtain ⟨A1, c1, h1, h2, h3⟩ := h.blk
  exact ⟨⟨A, c, by simpa using blk_set h1 0 (.slice A r.length c), hc, hC⟩, below_set h.b h.lo, h.lo, h8⟩
/-- what a call of the reference's text tells -/
def TxR (w0 w : World) (g : Nat) (s : RS) (n : Nat) (e : Ending) (w' : World) : Prop :=
  e = .returned (.string (strOfNums (txS s).1)) ∧ RR w0 w' g (txS s).2 n ∧ KeepBut w w' g none ∧ B8 (txS s).1
theorem TxR.of {w0 w w' : World} {g : Nat} {s s' : RS} {n : Nat} {x : List Int} {y : ByteArray} (h : txS s = (x, s')) (hy : y = strOfNums x) (hR : RR w0 w' g s' n) (hk : KeepBut w w' g none) (h8 : B8 x) : TxR w0 w g s n (.returned (.string y)) w' := by
  unfold TxR
  rw [h, hy]
  exact ⟨rfl, hR, hk, h8⟩
theorem str0 : (⟨#[]⟩ : ByteArray) = strOfNums [] := rfl
set_option maxRecDepth 20000 in
set_option maxHeartbeats 1000000 in
theorem rtext_bad (w0 w : World) (g : Nat) (s : RS) (n : Nat) (hR : RR w0 w g s n) (h : s.2 ≠ 0) : Calls Try.prog 69 #[.pointer (some ⟨g, 0, none⟩)] w (TxR w0 w g s n) := by
  have HR := Aside0.mk hR
  obtain ⟨A, c, hblk, -, -⟩ := hR.blk
  obtain ⟨⟨p0, p1, p2⟩, -⟩ := cells3 hblk
  have hne : (s.2 != 0) = true := by simpa using h
  have HE := Aside0.mk (txS_bad h)
  clear hR hblk h
  go_enter Try.func69, Try.ntmps69
  go_wp2_with fail
  exact bodyPost_ret (v := .string ⟨#[]⟩) (by simp [results, Try.results69, go_sem]) rfl (TxR.of (x := []) HE.out str0 HR.out (KeepBut.refl _ _ _) B8.nil)
set_option maxRecDepth 20000 in
set_option maxHeartbeats 4000000 in
theorem rtext_go (w0 w : World) (g : Nat) (b : List Int) (n : Nat) (hR : RR w0 w g (b, 0) n) (hl : b.length ≤ 1099511627776) : Calls Try.prog 69 #[.pointer (some ⟨g, 0, none⟩)] w (TxR w0 w g (b, 0) n) := by
  have HR := Aside0.mk hR
  obtain ⟨A, c, hblk, hc, hC⟩ := hR.blk
  obtain ⟨⟨p0, p1, p2⟩, q0, q1, q2⟩ := cells3 hblk
  have HB := Aside0.mk hblk
  have hC' : (Kd.int .u8).C w0 A b.length b := hC
  have hc' : b.length ≤ c := hc
  have HC := Aside0.mk hC'
  have hb8 : B8 b := hR.b8
  have HB8 := Aside0.mk hb8
  simp only at p0 p1 p2
  clear hR hblk hc hC hb8
  by_cases h1 : b.length < 8
  · have HE : Aside0 (txS (b, 0) = ([], (b, 2))) := ⟨txS_err (by unfold rdT; rw [if_pos h1])⟩
    have hd1 : decide ((b.length : Int) < 8) = true := by simp; omega
    go_enter Try.func69, Try.ntmps69
    go_wp2_with fail
    exact bodyPost_ret (v := .string ⟨#[]⟩) (by simp [results, Try.results69, go_sem]) rfl (TxR.of (x := []) HE.out str0 (HR.out.err 2) (KeepBut.set_ (KeepBut.refl _ _ _) 1 _) B8.nil)
  · have hd1 : decide ((b.length : Int) < 8) = false := by simp; omega
    have HO : Aside0 ((b.take 8).length = 8 ∧ B8 (b.take 8)) := ⟨by rw [List.length_take]; omega, HB8.out.take 8⟩
    obtain ⟨nn, hnn⟩ : ∃ q, V (b.take 8) = q := ⟨_, rfl⟩
    have HN := Aside0.mk hnn
    clear hnn
    go_enter Try.func69, Try.ntmps69
    go_wp2_with fail
    go_loopw [3, 4] (fun u i wr => ∃ j : Int, i = .int .i64 j ∧ -1 ≤ j ∧ j ≤ 7 ∧ u = .int .u64 ((V ((b.take 8).drop (j + 1).toNat) : Nat) : Int) ∧ wr = w) (fun _ i _ => (intOf i + 1).toNat)
    case atStart => exact ⟨7, rfl, by decide, by decide, by rw [List.drop_eq_nil_of_le (by have := HO.out.1; omega)]; rfl, rfl⟩
    case round =>
      obtain ⟨j, rfl, hj1, hj2, rfl, rfl⟩ := hrel
      by_cases hj : 0 ≤ j
      · obtain ⟨m, rfl⟩ := Int.eq_ofNat_of_zero_le hj
        have d1 : decide ((0 : Int) ≤ (m : Int)) = true := decide_eq_true hj
        obtain ⟨ad, hA, hcl⟩ := Kd.at_int (Kd.C_below HC.out HR.out.b) (m : Int) (by omega) (by omega)
        subst hA
        rw [Int.toNat_natCast] at hcl
        obtain ⟨hs1, hs2⟩ := up_step (b.take 8) HO.out.2 HO.out.1 m (by omega)
        have hr := HB8.out.rd (m : Int)
        have hrn : (b.take 8).getD m 0 = rd b (m : Int) := by
          rw [rd_nat, List.getD_eq_getElem?_getD, List.getD_eq_getElem?_getD, List.getElem?_take]
          rw [if_pos (by omega)]
        rw [hrn] at hs1
        have e1 : ((m : Int) + 1).toNat = m + 1 := by omega
        rw [e1]
        obtain ⟨v, hv⟩ : ∃ v, V ((b.take 8).drop (m + 1)) = v := ⟨_, rfl⟩
        rw [hv] at hs1 hs2 ⊢
        generalize rd b (m : Int) = y at *
        obtain ⟨x, rfl⟩ := Int.eq_ofNat_of_zero_le hr.1
        have HV := Aside0.mk hs1
        clear hs1 hv hrn e1
        go_wp2_with fail
        refine ⟨⟨(m : Int) - 1, rfl, by omega, by omega, ?_, trivial⟩, by simp [intOf]⟩
        have e2 : ((m : Int) - 1 + 1).toNat = m := by omega
        rw [e2, HV.out, or_hi v x (by omega) hs2, Int.toNat_natCast]
      · obtain rfl : j = -1 := by omega
        have e1 : ((-1 : Int) + 1).toNat = 0 := rfl
        rw [e1, List.drop_zero, HN.out]
        by_cases h2 : 2097152 < nn
        · have HE : Aside0 (txS (b, 0) = ([], (b, 3))) := ⟨txS_err (by unfold rdT; rw [if_neg h1, HN.out, if_pos h2])⟩
          have hd2 : decide ((nn : Int) > 2097152) = true := by simp; omega
          go_wp2_with fail
          exact bodyPost_ret (v := .string ⟨#[]⟩) (by simp [results, Try.results69, go_sem]) rfl (TxR.of (x := []) HE.out str0 (HR.out.err 3) (KeepBut.set_ (KeepBut.refl _ _ _) 1 _) B8.nil)
        · have hd2 : decide ((nn : Int) > 2097152) = false := by simp; omega
          have hwi : IntKind.i64.wrap (nn : Int) = (nn : Int) := by rw [IntKind.wrap_i64]; omega
          obtain ⟨i0, hi0, _, hsz0, _⟩ := info_parts info5
          obtain ⟨wl, hwl⟩ : ∃ q, (nn + 7) / 8 * 8 = q := ⟨_, rfl⟩
          have hwl2 : ((nn : Int) + 7) / 8 * 8 = (wl : Int) := by omega
          have hwln : nn ≤ wl := by omega
          have hwlu : wl ≤ 2097160 := by omega
          have hld : (b.drop 8).length = b.length - 8 := List.length_drop
          go_upto_region 15 with fail
          clear hwl2
          by_cases h3 : (b.drop 8).length < wl
          · have HE : Aside0 (txS (b, 0) = ([], (b, 2))) := ⟨txS_err (by unfold rdT; rw [if_neg h1, HN.out, if_neg h2, hwl, if_pos h3])⟩
            have hd3 : decide ((b.length : Int) - 8 < (wl : Int)) = true := decide_eq_true (by omega)
            clear hwl hi0 hsz0 hld h3
            go_wp2_with fail
            exact bodyPost_ret (v := .string ⟨#[]⟩) (by simp [results, Try.results69, go_sem]) rfl (TxR.of (x := []) HE.out str0 (HR.out.err 2) (KeepBut.set_ (KeepBut.refl _ _ _) 1 _) B8.nil)
          · have hd3 : decide ((b.length : Int) - 8 < (wl : Int)) = false := decide_eq_false (by omega)
            obtain ⟨A3, hmid, hA3, hlc3⟩ := print_mid_of (P := Try.prog) (Value.int .u8) 0 22 5 .i64 .i64 Try.underlying22 hi0 hsz0 A c b (8 : Int) (8 + (nn : Int)) (by omega) (by omega) (by omega) hc'
            obtain ⟨A4, hend, hA4, hlc4⟩ := print_drop_of (P := Try.prog) (Value.int .u8) 0 22 5 .i64 Try.underlying22 hi0 hsz0 A c b (8 + (wl : Int)) (by omega) (by omega) hc'
            have t8 : (8 + (nn : Int)).toNat = 8 + nn := by omega
            have w8 : (8 + (wl : Int)).toNat = 8 + wl := by omega
            rw [t8, show (8 : Int).toNat = 8 from rfl] at hmid hA3 hlc3
            rw [w8] at hend hA4 hlc4
            have ex : (b.take (8 + nn)).drop 8 = (b.drop 8).take nn := by rw [List.drop_take]; congr 1; omega
            have er : b.drop (8 + wl) = (b.drop 8).drop wl := by rw [List.drop_drop]
            rw [ex] at hmid hA3 hlc3
            rw [er] at hend hA4 hlc4
            have hE4 : (((b.drop 8).take wl).drop nn).all (· == 0) = false → txS (b, 0) = ([], (b, 3)) := fun h => txS_err (by unfold rdT; rw [if_neg h1, HN.out, if_neg h2, hwl, if_neg h3, if_pos h])
            have hE5 : (((b.drop 8).take wl).drop nn).all (· == 0) = true → txS (b, 0) = ((b.drop 8).take nn, ((b.drop 8).drop wl, 0)) := fun h => txS_ok (by unfold rdT; rw [if_neg h1, HN.out, if_neg h2, hwl, if_neg h3, if_neg (by rw [h]; simp)])
            have HCx := Aside0.mk (Kd.C_of_reads (h1 := fun _ => rfl) (hA3 w0 (Kd.reads_of_C HC.out)))
            have HCr := Aside0.mk (Kd.C_of_reads (h1 := fun _ => rfl) (hA4 w0 (Kd.reads_of_C HC.out)))
            have HB8x := Aside0.mk (And.intro ((HB8.out.drop 8).take nn) ((HB8.out.drop 8).drop wl))
            have HZ0 : Aside0 (∀ i, nn ≤ i → i < wl → (((b.drop 8).take wl).drop nn).getD (i - nn) 0 = rd b (8 + (i : Int))) := ⟨fun i h1 h2 => by
              rw [show (8 + (i : Int)) = ((8 + i : Nat) : Int) by omega, rd_nat, List.getD_eq_getElem?_getD, List.getD_eq_getElem?_getD, List.getElem?_drop, List.getElem?_take, if_pos (by omega), List.getElem?_drop]
              congr 2
              omega⟩
            obtain ⟨z, hzz⟩ : ∃ q, ((b.drop 8).take wl).drop nn = q := ⟨_, rfl⟩
            have hzl : z.length = wl - nn := by rw [← hzz, List.length_drop, List.length_take]; omega
            obtain ⟨r, hrr⟩ : ∃ q, (b.drop 8).drop wl = q := ⟨_, rfl⟩
            obtain ⟨x, hxx⟩ : ∃ q, (b.drop 8).take nn = q := ⟨_, rfl⟩
            rw [hzz] at hE4 hE5 HZ0
            rw [hrr] at hend hlc4 hE5 HCr HB8x
            rw [hxx] at hmid hlc3 hE5 HCx HB8x
            have HE4 := Aside0.mk hE4
            have HE5 := Aside0.mk hE5
            have hcv := Kd.C_string (c := c - 8) (src := 22) (dst := 9) Try.underlying22 Try.underlying5 Try.underlying9 (Kd.C_below HCx.out HR.out.b)
            have hbl : 8 + wl ≤ b.length := by omega
            clear hA3 hA4 hzz hrr hxx hwl hi0 hsz0 hE4 hE5 ex er t8 w8 hld h3
            go_wp2_with fail
            go_loop [7] (fun v => ∃ k : Nat, v = .int .i64 (k : Int) ∧ nn ≤ k ∧ k ≤ wl ∧ Aside0 (∀ i, nn ≤ i → i < k → z.getD (i - nn) 0 = 0)) (fun v => wl - (intOf v).toNat)
            case atStart => exact ⟨nn, rfl, Nat.le_refl _, hwln, ⟨fun i h1 h2 => absurd h2 (by omega)⟩⟩
            case round =>
              obtain ⟨k, rfl, hk0, hk, HZ⟩ := hrel
              by_cases hlt : k < wl
              · have hlt2 : decide ((k : Int) < (wl : Int)) = true := decide_eq_true (by omega)
                obtain ⟨ad, hA, hcell⟩ := Kd.at_int (Kd.C_below HC.out HR.out.b) (8 + (k : Int)) (by omega) (by omega)
                subst hA
                have ht : (8 + (k : Int)).toNat = 8 + k := by omega
                have hq := HZ0.out k hk0 hlt
                obtain ⟨q, hq2⟩ : ∃ q, rd b (8 + (k : Int)) = q := ⟨_, rfl⟩
                rw [hq2, ht] at hcell
                rw [hq2] at hq
                have HQ := Aside0.mk hq
                clear hq hq2
                have hi1 : decide (8 + (k : Int) < (b.length : Int)) = true := decide_eq_true (by omega)
                have hi0 : decide (0 ≤ 8 + (k : Int)) = true := decide_eq_true (by omega)
                by_cases h0 : q = 0
                · have hd0 : (q != 0) = false := by simp [h0]
                  go_wp2_with fail
                  refine ⟨⟨k + 1, by go_num, by omega, by omega, ⟨fun i hi hi2 => ?_⟩⟩, by simp [intOf]; omega⟩
                  rcases Nat.lt_succ_iff_lt_or_eq.1 hi2 with h | h
                  · exact HZ.out i hi h
                  · rw [h, HQ.out, h0]
                · have hd0 : (q != 0) = true := by simpa using h0
                  have HE : Aside0 (txS (b, 0) = ([], (b, 3))) := ⟨HE4.out (by
                    cases hall : z.all (· == 0) with
                    | false => rfl
                    | true =>
                      rw [List.all_eq_true] at hall
                      have hlz : k - nn < z.length := by omega
                      have h9 := hall z[k - nn] (List.getElem_mem hlz)
                      have h8 : z.getD (k - nn) 0 = z[k - nn] := by rw [List.getD_eq_getElem?_getD, List.getElem?_eq_getElem hlz]; rfl
                      rw [← h8, HQ.out] at h9
                      exact absurd (by simpa using h9) h0)⟩
                  go_wp2_with fail
                  exact bodyPost_ret (v := .string ⟨#[]⟩) (by simp [results, Try.results69, go_sem]) rfl (TxR.of (x := []) HE.out str0 (HR.out.err 3) (KeepBut.set_ (KeepBut.refl _ _ _) 1 _) B8.nil)
              · have hkk : k = wl := by omega
                subst hkk
                have hlt2 : decide ((k : Int) < (k : Int)) = false := decide_eq_false (by omega)
                have HE : Aside0 (txS (b, 0) = (x, (r, 0))) := ⟨HE5.out (by
                  rw [List.all_eq_true]
                  intro y hy
                  obtain ⟨i, hi, rfl⟩ := List.getElem_of_mem hy
                  have := HZ.out (i + nn) (by omega) (by omega)
                  rw [Nat.add_sub_cancel, List.getD_eq_getElem?_getD, List.getElem?_eq_getElem hi] at this
                  simpa using this)⟩
                go_wp2_with fail
                exact bodyPost_ret (v := .string (strOfNums x)) (by simp [results, Try.results69, go_sem]) rfl (TxR.of HE.out rfl (HR.out.rest hlc4 HCr.out HB8x.out.2) (KeepBut.set_ (KeepBut.refl _ _ _) 0 _) HB8x.out.1)
theorem rtext_any (w0 w : World) (g : Nat) (s : RS) (n : Nat) (hR : RR w0 w g s n) (hl : s.1.length ≤ 1099511627776) : Calls Try.prog 69 #[.pointer (some ⟨g, 0, none⟩)] w (TxR w0 w g s n) := by
  obtain ⟨b, e⟩ := s
  by_cases h : e = 0
  · subst h; exact rtext_go w0 w g b n hR hl
  · exact rtext_bad w0 w g (b, e) n hR h
end Go.Proofs.Ythhajkmeadapgaa.Tree
