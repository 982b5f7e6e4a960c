/- nar's reference: the reader's text. Own work. -/
import Derived.Test.YthhajkmeadapgaaDcM
namespace Go.Proofs.Ythhajkmeadapgaa.Tree
set_option linter.unusedVariables false
set_option linter.unusedSimpArgs false
open Go.RowKit Go.Proofs.Ythhajkmeadapgaa.PL Go.Proofs.Ythhajkmeadapgaa.Mn Go.Proofs.YthhajkmeadapgaaW.PrintWords Go.Proofs.YthhajkmeadapgaaW.PrintLast Go.Proofs.YthhajkmeadapgaaW.PrintMore
theorem up_step (out : List Int) (hb : B8 out) (ho : out.length = 8) (n : Nat) (hn : n < 8) :
    V (out.drop n) = (out.getD n 0).toNat + 256 * V (out.drop (n + 1)) ∧ V (out.drop (n + 1)) < 72057594037927936 := by
  refine ⟨?_, ?_⟩
  · rw [List.drop_eq_getElem_cons (by omega), V, List.getD_eq_getElem?_getD, List.getElem?_eq_getElem (by omega)]; rfl
  · have h1 := V_lt (hb.drop (n + 1))
    have h2 : (out.drop (n + 1)).length ≤ 7 := by rw [List.length_drop]; omega
    have h3 : 256 ^ (out.drop (n + 1)).length ≤ 256 ^ 7 := Nat.pow_le_pow_right (by decide) h2
    have : (256 : Nat) ^ 7 = 72057594037927936 := by decide
    omega
theorem or_hi (v b : Nat) (hb : b < 256) (hv : v < 72057594037927936) : Go.bits .or .u64 ((v : Int) * 256) (b : Int) = ((b + 256 * v : Nat) : Int) := by
  have e : (v : Int) * 256 = ((v * 2 ^ 8 : Nat) : Int) := by omega
  have h := u64_or_low 8 b v (by omega) (by omega)
  rw [e]
  have hq : ∀ x y : Nat, x < 18446744073709551616 → y < 18446744073709551616 → Go.bits .or .u64 (x : Int) (y : Int) = ((x ||| y : Nat) : Int) := fun x y hx hy =>
    bits_or_nat .u64 64 (by decide) (fun n h0 h1 => wu64 h0 (Int.lt_of_lt_of_le h1 (Int.le_of_eq (by decide +kernel)))) _ _ (by show _ < 18446744073709551616; omega) (by show _ < 18446744073709551616; omega)
  rw [hq b (v * 2 ^ 8) (by omega) (by omega)] at h
  rw [hq (v * 2 ^ 8) b (by omega) (by omega), Nat.or_comm, h]
  omega
/-- the reference's reader in block g, told -/
structure RR (w0 w : World) (g : Nat) (s : RS) (n : Nat) : Prop where
  blk : ∃ A c, w.heap[g]? = some (.cells #[.slice A s.1.length c, .int .i64 s.2, .int .i64 n] 83 (0, 0)) ∧ s.1.length ≤ c ∧ (Kd.int .u8).C w0 A s.1.length s.1
  b : Below w0.heap.size w0 w
  lo : w0.heap.size ≤ g
  b8 : B8 s.1
theorem RR.keep {w0 w w2 : World} {g : Nat} {s : RS} {n : Nat} (h : RR w0 w g s n) (hb : Below w.heap.size w w2) : RR w0 w2 g s n := by
  obtain ⟨A, c, h1, h2, h3⟩ := h.blk
  exact ⟨⟨A, c, (hb.block _ (blk_lt h1)).trans h1, h2, h3⟩, below_then h.b h.b.size hb, h.lo, h.b8⟩
/-- the first error, stored -/
theorem RR.err {w0 w : World} {g : Nat} {s : RS} {n : Nat} (h : RR w0 w g s n) (k : Int) : RR w0 (w.setCell ⟨g, 1, none⟩ (.int .i64 k)) g (s.1, k) n := by
  obtain ⟨A, c, h1, h2, h3⟩ := h.blk
  exact ⟨⟨A, c, by simpa using blk_set h1 1 (.int .i64 k), h2, h3⟩, below_set h.b h.lo, h.lo, h.b8⟩
theorem RR.rest {w0 w : World} {g : Nat} {s : RS} {n : Nat} (h : RR w0 w g s n) {A : Option Addr} {c : Nat} {r : List Int} (hc : r.length ≤ c) (hC : (Kd.int .u8).C w0 A r.length r) (h8 : B8 r) : RR w0 (w.setCell ⟨g, 0, none⟩ (.slice A r.length c)) g (r, s.2) n := by
  obtain ⟨A1, c1, h1, h2, h3⟩ := h.blk
  exact ⟨⟨A, c, by simpa using blk_set h1 0 (.slice A r.length c), hc, hC⟩, below_set h.b h.lo, h.lo, h8⟩
/-- what a call of the reference's text tells -/
def TxR (w0 w : World) (g : Nat) (s : RS) (n : Nat) (e : Ending) (w' : World) : Prop :=
  e = .returned (.string (strOfNums (txS s).1)) ∧ RR w0 w' g (txS s).2 n ∧ KeepBut w w' g none ∧ B8 (txS s).1
theorem TxR.of {w0 w w' : World} {g : Nat} {s s' : RS} {n : Nat} {x : List Int} {y : ByteArray} (h : txS s = (x, s')) (hy : y = strOfNums x) (hR : RR w0 w' g s' n) (hk : KeepBut w w' g none) (h8 : B8 x) : TxR w0 w g s n (.returned (.string y)) w' := by
  unfold TxR
  rw [h, hy]
  exact ⟨rfl, hR, hk, h8⟩
theorem str0 : (⟨#[]⟩ : ByteArray) = strOfNums [] := rfl
set_option maxRecDepth 20000 in
set_option maxHeartbeats 1000000 in
theorem rtext_bad (w0 w : World) (g : Nat) (s : RS) (n : Nat) (hR : RR w0 w g s n) (h : s.2 ≠ 0) : Calls Try.prog 69 #[.pointer (some ⟨g, 0, none⟩)] w (TxR w0 w g s n) := by
  have HR := Aside0.mk hR
  obtain ⟨A, c, hblk, -, -⟩ := hR.blk
  obtain ⟨⟨p0, p1, p2⟩, -⟩ := cells3 hblk
  have hne : (s.2 != 0) = true := by simpa using h
  have HE := Aside0.mk (txS_bad h)
  clear hR hblk h
  go_enter Try.func69, Try.ntmps69
  go_wp2_with fail
  exact bodyPost_ret (v := .string ⟨#[]⟩) (by simp [results, Try.results69, go_sem]) rfl (TxR.of (x := []) HE.out str0 HR.out (KeepBut.refl _ _ _) B8.nil)
set_option maxRecDepth 20000 in
set_option maxHeartbeats 4000000 in
theorem rtext_go (w0 w : World) (g : Nat) (b : List Int) (n : Nat) (hR : RR w0 w g (b, 0) n) (hl : b.length ≤ 1099511627776) : Calls Try.prog 69 #[.pointer (some ⟨g, 0, none⟩)] w (TxR w0 w g (b, 0) n) := by
  have HR := Aside0.mk hR
  obtain ⟨A, c, hblk, hc, hC⟩ := hR.blk
  obtain ⟨⟨p0, p1, p2⟩, q0, q1, q2⟩ := cells3 hblk
  have HB := Aside0.mk hblk
  have hC' : (Kd.int .u8).C w0 A b.length b := hC
  have hc' : b.length ≤ c := hc
  have HC := Aside0.mk hC'
  have hb8 : B8 b := hR.b8
  have HB8 := Aside0.mk hb8
  simp only at p0 p1 p2
  clear hR hblk hc hC hb8
  by_cases h1 : b.length < 8
  · have HE : Aside0 (txS (b, 0) = ([], (b, 2))) := ⟨txS_err (by unfold rdT; rw [if_pos h1])⟩
    have hd1 : decide ((b.length : Int) < 8) = true := by simp; omega
    go_enter Try.func69, Try.ntmps69
    go_wp2_with fail
    exact bodyPost_ret (v := .string ⟨#[]⟩) (by simp [results, Try.results69, go_sem]) rfl (TxR.of (x := []) HE.out str0 (HR.out.err 2) (KeepBut.set_ (KeepBut.refl _ _ _) 1 _) B8.nil)
  · have hd1 : decide ((b.length : Int) < 8) = false := by simp; omega
    have HO : Aside0 ((b.take 8).length = 8 ∧ B8 (b.take 8)) := ⟨by rw [List.length_take]; omega, HB8.out.take 8⟩
    obtain ⟨nn, hnn⟩ : ∃ q, V (b.take 8) = q := ⟨_, rfl⟩
    have HN := Aside0.mk hnn
    clear hnn
    go_enter Try.func69, Try.ntmps69
    go_wp2_with fail
    go_loopw [3, 4] (fun u i wr => ∃ j : Int, i = .int .i64 j ∧ -1 ≤ j ∧ j ≤ 7 ∧ u = .int .u64 ((V ((b.take 8).drop (j + 1).toNat) : Nat) : Int) ∧ wr = w) (fun _ i _ => (intOf i + 1).toNat)
    case atStart => exact ⟨7, rfl, by decide, by decide, by rw [List.drop_eq_nil_of_le (by have := HO.out.1; omega)]; rfl, rfl⟩
    case round =>
      obtain ⟨j, rfl, hj1, hj2, rfl, rfl⟩ := hrel
      by_cases hj : 0 ≤ j
      · obtain ⟨m, rfl⟩ := Int.eq_ofNat_of_zero_le hj
        have d1 : decide ((0 : Int) ≤ (m : Int)) = true := decide_eq_true hj
        obtain ⟨ad, hA, hcl⟩ := Kd.at_int (Kd.C_below HC.out HR.out.b) (m : Int) (by omega) (by omega)
        subst hA
        rw [Int.toNat_natCast] at hcl
        obtain ⟨hs1, hs2⟩ := up_step (b.take 8) HO.out.2 HO.out.1 m (by omega)
        have hr := HB8.out.rd (m : Int)
        have hrn : (b.take 8).getD m 0 = rd b (m : Int) := by
          rw [rd_nat, List.getD_eq_getElem?_getD, List.getD_eq_getElem?_getD, List.getElem?_take]
          rw [if_pos (by omega)]
        rw [hrn] at hs1
        have e1 : ((m : Int) + 1).toNat = m + 1 := by omega
        rw [e1]
        obtain ⟨v, hv⟩ : ∃ v, V ((b.take 8).drop (m + 1)) = v := ⟨_, rfl⟩
        rw [hv] at hs1 hs2 ⊢
        generalize rd b (m : Int) = y at *
        obtain ⟨x, rfl⟩ := Int.eq_ofNat_of_zero_le hr.1
        have HV := Aside0.mk hs1
        clear hs1 hv hrn e1
        go_wp2_with fail
        refine ⟨⟨(m : Int) - 1, rfl, by omega, by omega, ?_, trivial⟩, by simp [intOf]⟩
        have e2 : ((m : Int) - 1 + 1).toNat = m := by omega
        rw [e2, HV.out, or_hi v x (by omega) hs2, Int.toNat_natCast]
      · obtain rfl : j = -1 := by omega
        have e1 : ((-1 : Int) + 1).toNat = 0 := rfl
        rw [e1, List.drop_zero, HN.out]
        by_cases h2 : 2097152 < nn
        · have HE : Aside0 (txS (b, 0) = ([], (b, 3))) := ⟨txS_err (by unfold rdT; rw [if_neg h1, HN.out, if_pos h2])⟩
          have hd2 : decide ((nn : Int) > 2097152) = true := by simp; omega
          go_wp2_with fail
          exact bodyPost_ret (v := .string ⟨#[]⟩) (by simp [results, Try.results69, go_sem]) rfl (TxR.of (x := []) HE.out str0 (HR.out.err 3) (KeepBut.set_ (KeepBut.refl _ _ _) 1 _) B8.nil)
        · have hd2 : decide ((nn : Int) > 2097152) = false := by simp; omega
          have hwi : IntKind.i64.wrap (nn : Int) = (nn : Int) := by rw [IntKind.wrap_i64]; omega
          obtain ⟨i0, hi0, _, hsz0, _⟩ := info_parts info5
          obtain ⟨wl, hwl⟩ : ∃ q, (nn + 7) / 8 * 8 = q := ⟨_, rfl⟩
          have hwl2 : ((nn : Int) + 7) / 8 * 8 = (wl : Int) := by omega
          have hwln : nn ≤ wl := by omega
          have hwlu : wl ≤ 2097160 := by omega
          have hld : (b.drop 8).length = b.length - 8 := List.length_drop
          go_upto_region 15 with fail
          clear hwl2
          by_cases h3 : (b.drop 8).length < wl
          · have HE : Aside0 (txS (b, 0) = ([], (b, 2))) := ⟨txS_err (by unfold rdT; rw [if_neg h1, HN.out, if_neg h2, hwl, if_pos h3])⟩
            have hd3 : decide ((b.length : Int) - 8 < (wl : Int)) = true := decide_eq_true (by omega)
            clear hwl hi0 hsz0 hld h3
            go_wp2_with fail
            exact bodyPost_ret (v := .string ⟨#[]⟩) (by simp [results, Try.results69, go_sem]) rfl (TxR.of (x := []) HE.out str0 (HR.out.err 2) (KeepBut.set_ (KeepBut.refl _ _ _) 1 _) B8.nil)
          · have hd3 : decide ((b.length : Int) - 8 < (wl : Int)) = false := decide_eq_false (by omega)
            obtain ⟨A3, hmid, hA3, hlc3⟩ := print_mid_of (P := Try.prog) (Value.int .u8) 0 22 5 .i64 .i64 Try.underlying22 hi0 hsz0 A c b (8 : Int) (8 + (nn : Int)) (by omega) (by omega) (by omega) hc'
            obtain ⟨A4, hend, hA4, hlc4⟩ := print_drop_of (P := Try.prog) (Value.int .u8) 0 22 5 .i64 Try.underlying22 hi0 hsz0 A c b (8 + (wl : Int)) (by omega) (by omega) hc'
            have t8 : (8 + (nn : Int)).toNat = 8 + nn := by omega
            have w8 : (8 + (wl : Int)).toNat = 8 + wl := by omega
            rw [t8, show (8 : Int).toNat = 8 from rfl] at hmid hA3 hlc3
            rw [w8] at hend hA4 hlc4
            have ex : (b.take (8 + nn)).drop 8 = (b.drop 8).take nn := by rw [List.drop_take]; congr 1; omega
            have er : b.drop (8 + wl) = (b.drop 8).drop wl := by rw [List.drop_drop]
            rw [ex] at hmid hA3 hlc3
            rw [er] at hend hA4 hlc4
            have hE4 : (((b.drop 8).take wl).drop nn).all (· == 0) = false → txS (b, 0) = ([], (b, 3)) := fun h => txS_err (by unfold rdT; rw [if_neg h1, HN.out, if_neg h2, hwl, if_neg h3, if_pos h])
            have hE5 : (((b.drop 8).take wl).drop nn).all (· == 0) = true → txS (b, 0) = ((b.drop 8).take nn, ((b.drop 8).drop wl, 0)) := fun h => txS_ok (by unfold rdT; rw [if_neg h1, HN.out, if_neg h2, hwl, if_neg h3, if_neg (by rw [h]; simp)])
            have HCx := Aside0.mk (Kd.C_of_reads (h1 := fun _ => rfl) (hA3 w0 (Kd.reads_of_C HC.out)))
            have HCr := Aside0.mk (Kd.C_of_reads (h1 := fun _ => rfl) (hA4 w0 (Kd.reads_of_C HC.out)))
            have HB8x := Aside0.mk (And.intro ((HB8.out.drop 8).take nn) ((HB8.out.drop 8).drop wl))
            have HZ0 : Aside0 (∀ i, nn ≤ i → i < wl → (((b.drop 8).take wl).drop nn).getD (i - nn) 0 = rd b (8 + (i : Int))) := ⟨fun i h1 h2 => by
              rw [show (8 + (i : Int)) = ((8 + i : Nat) : Int) by omega, rd_nat, List.getD_eq_getElem?_getD, List.getD_eq_getElem?_getD, List.getElem?_drop, List.getElem?_take, if_pos (by omega), List.getElem?_drop]
              congr 2
              omega⟩
            obtain ⟨z, hzz⟩ : ∃ q, ((b.drop 8).take wl).drop nn = q := ⟨_, rfl⟩
            have hzl : z.length = wl - nn := by rw [← hzz, List.length_drop, List.length_take]; omega
            obtain ⟨r, hrr⟩ : ∃ q, (b.drop 8).drop wl = q := ⟨_, rfl⟩
            obtain ⟨x, hxx⟩ : ∃ q, (b.drop 8).take nn = q := ⟨_, rfl⟩
            rw [hzz] at hE4 hE5 HZ0
            rw [hrr] at hend hlc4 hE5 HCr HB8x
            rw [hxx] at hmid hlc3 hE5 HCx HB8x
            have HE4 := Aside0.mk hE4
            have HE5 := Aside0.mk hE5
            have hcv := Kd.C_string (c := c - 8) (src := 22) (dst := 9) Try.underlying22 Try.underlying5 Try.underlying9 (Kd.C_below HCx.out HR.out.b)
            have hbl : 8 + wl ≤ b.length := by omega
            clear hA3 hA4 hzz hrr hxx hwl hi0 hsz0 hE4 hE5 ex er t8 w8 hld h3
            go_wp2_with fail
            go_loop [7] (fun v => ∃ k : Nat, v = .int .i64 (k : Int) ∧ nn ≤ k ∧ k ≤ wl ∧ Aside0 (∀ i, nn ≤ i → i < k → z.getD (i - nn) 0 = 0)) (fun v => wl - (intOf v).toNat)
            case atStart => exact ⟨nn, rfl, Nat.le_refl _, hwln, ⟨fun i h1 h2 => absurd h2 (by omega)⟩⟩
            case round =>
              obtain ⟨k, rfl, hk0, hk, HZ⟩ := hrel
              by_cases hlt : k < wl
              · have hlt2 : decide ((k : Int) < (wl : Int)) = true := decide_eq_true (by omega)
                obtain ⟨ad, hA, hcell⟩ := Kd.at_int (Kd.C_below HC.out HR.out.b) (8 + (k : Int)) (by omega) (by omega)
                subst hA
                have ht : (8 + (k : Int)).toNat = 8 + k := by omega
                have hq := HZ0.out k hk0 hlt
                obtain ⟨q, hq2⟩ : ∃ q, rd b (8 + (k : Int)) = q := ⟨_, rfl⟩
                rw [hq2, ht] at hcell
                rw [hq2] at hq
                have HQ := Aside0.mk hq
                clear hq hq2
                have hi1 : decide (8 + (k : Int) < (b.length : Int)) = true := decide_eq_true (by omega)
                have hi0 : decide (0 ≤ 8 + (k : Int)) = true := decide_eq_true (by omega)
                by_cases h0 : q = 0
                · have hd0 : (q != 0) = false := by simp [h0]
                  go_wp2_with fail
                  refine ⟨⟨k + 1, by go_num, by omega, by omega, ⟨fun i hi hi2 => ?_⟩⟩, by simp [intOf]; omega⟩
                  rcases Nat.lt_succ_iff_lt_or_eq.1 hi2 with h | h
                  · exact HZ.out i hi h
                  · rw [h, HQ.out, h0]
                · have hd0 : (q != 0) = true := by simpa using h0
                  have HE : Aside0 (txS (b, 0) = ([], (b, 3))) := ⟨HE4.out (by
                    cases hall : z.all (· == 0) with
                    | false => rfl
                    | true =>
                      rw [List.all_eq_true] at hall
                      have hlz : k - nn < z.length := by omega
                      have h9 := hall z[k - nn] (List.getElem_mem hlz)
                      have h8 : z.getD (k - nn) 0 = z[k - nn] := by rw [List.getD_eq_getElem?_getD, List.getElem?_eq_getElem hlz]; rfl
                      rw [← h8, HQ.out] at h9
                      exact absurd (by simpa using h9) h0)⟩
                  go_wp2_with fail
                  exact bodyPost_ret (v := .string ⟨#[]⟩) (by simp [results, Try.results69, go_sem]) rfl (TxR.of (x := []) HE.out str0 (HR.out.err 3) (KeepBut.set_ (KeepBut.refl _ _ _) 1 _) B8.nil)
              · have hkk : k = wl := by omega
                subst hkk
                have hlt2 : decide ((k : Int) < (k : Int)) = false := decide_eq_false (by omega)
                have HE : Aside0 (txS (b, 0) = (x, (r, 0))) := ⟨HE5.out (by
                  rw [List.all_eq_true]
                  intro y hy
                  obtain ⟨i, hi, rfl⟩ := List.getElem_of_mem hy
                  have := HZ.out (i + nn) (by omega) (by omega)
                  rw [Nat.add_sub_cancel, List.getD_eq_getElem?_getD, List.getElem?_eq_getElem hi] at this
                  simpa using this)⟩
                go_wp2_with fail
                exact bodyPost_ret (v := .string (strOfNums x)) (by simp [results, Try.results69, go_sem]) rfl (TxR.of HE.out rfl (HR.out.rest hlc4 HCr.out HB8x.out.2) (KeepBut.set_ (KeepBut.refl _ _ _) 0 _) HB8x.out.1)
theorem rtext_any (w0 w : World) (g : Nat) (s : RS) (n : Nat) (hR : RR w0 w g s n) (hl : s.1.length ≤ 1099511627776) : Calls Try.prog 69 #[.pointer (some ⟨g, 0, none⟩)] w (TxR w0 w g s n) := by
  obtain ⟨b, e⟩ := s
  by_cases h : e = 0
  · subst h; exact rtext_go w0 w g b n hR hl
  · exact rtext_bad w0 w g (b, e) n hR h
end Go.Proofs.Ythhajkmeadapgaa.Tree
/- nar's reference: must; node as a plain function. Own work. -/
namespace Go.Proofs.Ythhajkmeadapgaa.Tree
set_option linter.unusedVariables false
set_option linter.unusedSimpArgs false
open Go.RowKit Go.Proofs.Ythhajkmeadapgaa.PL Go.Proofs.Ythhajkmeadapgaa.Mn Go.Proofs.YthhajkmeadapgaaW.PrintWords Go.Proofs.YthhajkmeadapgaaW.PrintLast Go.Proofs.YthhajkmeadapgaaW.PrintMore
set_option maxRecDepth 20000 in
set_option maxHeartbeats 2000000 in
theorem must_any (w0 w : World) (g : Nat) (s : RS) (n : Nat) (x : ByteArray) (hR : RR w0 w g s n) (hl : s.1.length ≤ 1099511627776) :
    Calls Try.prog 49 #[.pointer (some ⟨g, 0, none⟩), .string x] w fun e w' => e = .returned (.tuple #[]) ∧ RR w0 w' g (wd1 s x) n ∧ KeepBut w w' g none := by
  have HT := Aside0.mk (rtext_any w0 w g s n hR hl)
  have HW : Aside0 (wd1 s x = if (txS s).2.2 = 0 ∧ (txS s).1 ≠ bytesOf x then ((txS s).2.1, 3) else (txS s).2) := ⟨rfl⟩
  clear hR hl
  unfold TxR at HT
  obtain ⟨l, hl⟩ : ∃ q, (txS s).1 = q := ⟨_, rfl⟩
  obtain ⟨s2, hs2⟩ : ∃ q, (txS s).2 = q := ⟨_, rfl⟩
  rw [hl, hs2] at HT HW
  clear hl hs2
  go_enter Try.func49, Try.ntmps49
  go_wp2_with fail
  refine HT.out.mono ?_
  rintro e_ w2 ⟨rfl, hr2, hk2, h8⟩
  have H2 := Aside0.mk (And.intro hr2 hk2)
  obtain ⟨A, c, hblk, -, -⟩ := hr2.blk
  obtain ⟨⟨p0, p1, p2⟩, q0, q1, q2⟩ := cells3 hblk
  have hsi := str_is h8 x
  obtain ⟨y, hy⟩ : ∃ q, strOfNums l = q := ⟨_, rfl⟩
  rw [hy] at hsi ⊢
  clear hblk hr2 hk2 h8 hy HT p0 p2 q0 q2
  by_cases h0 : s2.2 = 0
  · have e0 : (s2.2 == 0) = true := by simpa using h0
    by_cases hxy : l = bytesOf x
    · have HW2 : Aside0 (wd1 s x = s2) := ⟨by rw [HW.out, if_neg (fun h => h.2 hxy)]⟩
      have e1 : (y.toList == x.toList) = true := by rw [hsi.2 hxy]; simp
      have e2 : (y.toList != x.toList) = false := by rw [hsi.2 hxy]; simp
      clear hxy hsi HW
      go_wp2_with fail
      exact bodyPost_end (v := .tuple #[]) (by simp [results, Try.results49, go_sem]) rfl ⟨rfl, by rw [HW2.out]; exact H2.out.1, H2.out.2⟩
    · have HW2 : Aside0 (wd1 s x = (s2.1, 3)) := ⟨by rw [HW.out, if_pos ⟨h0, hxy⟩]⟩
      have hxy2 : ¬ y.toList = x.toList := fun h => hxy (hsi.1 h)
      have e1 : (y.toList == x.toList) = false := by simpa using hxy2
      have e2 : (y.toList != x.toList) = true := by simpa using hxy2
      clear hxy hsi HW hxy2
      go_wp2_with fail
      exact bodyPost_end (v := .tuple #[]) (by simp [results, Try.results49, go_sem]) rfl ⟨rfl, by rw [HW2.out]; exact H2.out.1.err 3, H2.out.2.trans (KeepBut.set_ (KeepBut.refl _ _ _) 1 _) (.inl rfl)⟩
  · have e0 : (s2.2 == 0) = false := by simpa using h0
    have HW2 : Aside0 (wd1 s x = s2) := ⟨by rw [HW.out, if_neg (fun h => h0 h.1)]⟩
    clear hsi HW
    go_wp2_with fail
    exact bodyPost_end (v := .tuple #[]) (by simp [results, Try.results49, go_sem]) rfl ⟨rfl, by rw [HW2.out]; exact H2.out.1, H2.out.2⟩
/-- the reference's node: no count once an error stands -/
def nodeR : Nat → Nat → RS × Nat → S26 × RS × Nat
  | 0, _, s => (z0, s.1, s.2)
  | F + 1, deep, s =>
    if s.1.2 ≠ 0 then (z0, s.1, s.2)
    else if 65536 < s.2 + 1 ∨ 64 < deep then (z0, (s.1.1, 5), s.2 + 1)
    else
    let k := txS (wdS s.1 [sL, sType])
    if k.2.2 ≠ 0 then (z0, k.2, s.2 + 1)
    else if k.1 = bytesOf sReg then (⟨1, (regS k.2).1, (regS k.2).2.1, [], []⟩, (regS k.2).2.2, s.2 + 1)
    else if k.1 = bytesOf sSym then (⟨3, false, (symS k.2).1, [], []⟩, (symS k.2).2, s.2 + 1)
    else if k.1 = bytesOf sDir then
      let r := entS (nodeR F (deep + 1)) (k.2.1.length + 1) (k.2, s.2 + 1) ([], [])
      (⟨2, false, [], r.1.1, r.1.2⟩, r.2.1, r.2.2)
    else (z0, (k.2.1, 3), s.2 + 1)
theorem nodeR_bad {F deep n : Nat} {s : RS} (h : s.2 ≠ 0) : nodeR (F + 1) deep (s, n) = (z0, s, n) := by rw [nodeR, if_pos h]
theorem nodeR_long {F deep n : Nat} {s : RS} (h0 : s.2 = 0) (h : 65536 < n + 1 ∨ 64 < deep) : nodeR (F + 1) deep (s, n) = (z0, (s.1, 5), n + 1) := by rw [nodeR, if_neg (fun hh => hh h0), if_pos h]
theorem nodeR_go {F deep n : Nat} {s q : RS} {l : List Int} (h0 : s.2 = 0) (h : ¬ (65536 < n + 1 ∨ 64 < deep)) (hk : txS (wdS s [sL, sType]) = (l, q)) :
    nodeR (F + 1) deep (s, n) = if q.2 ≠ 0 then (z0, q, n + 1) else if l = bytesOf sReg then (⟨1, (regS q).1, (regS q).2.1, [], []⟩, (regS q).2.2, n + 1) else if l = bytesOf sSym then (⟨3, false, (symS q).1, [], []⟩, (symS q).2, n + 1)
      else if l = bytesOf sDir then (⟨2, false, [], (entS (nodeR F (deep + 1)) (q.1.length + 1) (q, n + 1) ([], [])).1.1, (entS (nodeR F (deep + 1)) (q.1.length + 1) (q, n + 1) ([], [])).1.2⟩, (entS (nodeR F (deep + 1)) (q.1.length + 1) (q, n + 1) ([], [])).2.1, (entS (nodeR F (deep + 1)) (q.1.length + 1) (q, n + 1) ([], [])).2.2)
      else (z0, (q.1, 3), n + 1) := by
  rw [nodeR, if_neg (fun hh => hh h0), if_neg h]
  simp only
  rw [hk]
/-- same tree, same state; same count while no error stands -/
def AsR (a b : S26 × RS × Nat) : Prop := a.1 = b.1 ∧ a.2.1 = b.2.1 ∧ (b.2.1.2 = 0 → a.2.2 = b.2.2)
theorem entS_as (f h : RS × Nat → S26 × RS × Nat) (hf : ∀ s n m, (s.2 = 0 → n = m) → AsR (f (s, n)) (h (s, m))) : ∀ (L : Nat) (s : RS) (n m : Nat) (a : List ByteArray × List S26), (s.2 = 0 → n = m) →
    (entS f L (s, n) a).1 = (entS h L (s, m) a).1 ∧ (entS f L (s, n) a).2.1 = (entS h L (s, m) a).2.1 ∧ ((entS h L (s, m) a).2.1.2 = 0 → (entS f L (s, n) a).2.2 = (entS h L (s, m) a).2.2) := by
  intro L
  induction L with
  | zero => intro s n m a hn; exact ⟨rfl, rfl, hn⟩
  | succ L ih =>
    intro s n m a hn
    by_cases h0 : s.2 = 0
    · obtain ⟨l, r, hl0⟩ : ∃ l r, txS s = (l, r) := ⟨_, _, rfl⟩
      by_cases hr : r.2 = 0
      · by_cases h1 : l = bytesOf sR
        · subst h1
          rw [entS_end h0 hl0, entS_end h0 hl0]
          exact ⟨rfl, rfl, fun _ => hn h0⟩
        · by_cases h2 : l = bytesOf sEntry
          · subst h2
            obtain ⟨nm, q2, hm⟩ : ∃ nm q2, txS (wdS r [sL, sName]) = (nm, q2) := ⟨_, _, rfl⟩
            obtain ⟨z, hz⟩ : ∃ z, wdS q2 [sNode] = z := ⟨_, rfl⟩
            obtain ⟨t, q3, m', hk⟩ : ∃ t q3 m', f (z, n) = (t, q3, m') := ⟨_, _, _, rfl⟩
            obtain ⟨t2, q32, m2, hk2⟩ : ∃ t q3 m', h (z, m) = (t, q3, m') := ⟨_, _, _, rfl⟩
            obtain ⟨g1, g2, g3⟩ := hf z n m (fun _ => hn h0)
            rw [hk, hk2] at g1 g2 g3
            simp only at g1 g2 g3
            subst g1 g2
            rw [entS_kid (l := nm) (q2 := q2) (t := t) (q3 := q3) (m := m') h0 hl0 hr hm (by rw [hz]; exact hk), entS_kid (l := nm) (q2 := q2) (t := t) (q3 := q3) (m := m2) h0 hl0 hr hm (by rw [hz]; exact hk2)]
            exact ih _ m' m2 _ (fun hv => g3 (wdS_zero rfl hv))
          · rw [entS_odd h0 hl0 hr h1 h2, entS_odd h0 hl0 hr h1 h2]
            exact ⟨rfl, rfl, fun _ => hn h0⟩
      · rw [entS_err h0 hl0 hr, entS_err h0 hl0 hr]
        exact ⟨rfl, rfl, fun _ => hn h0⟩
    · rw [entS_bad h0, entS_bad h0]
      exact ⟨rfl, rfl, hn⟩
theorem nodeR_as : ∀ (F deep : Nat) (s : RS) (n m : Nat), (s.2 = 0 → n = m) → AsR (nodeR F deep (s, n)) (nodeS F deep (s, m)) := by
  intro F
  induction F with
  | zero => intro deep s n m hn; rw [nodeR, nodeS]; exact ⟨rfl, rfl, hn⟩
  | succ F ih =>
    intro deep s n m hn
    by_cases h0 : s.2 = 0
    · obtain rfl := hn h0
      by_cases hlong : 65536 < n + 1 ∨ 64 < deep
      · rw [nodeR_long h0 hlong, nodeS_long ⟨h0, hlong⟩]
        exact ⟨rfl, rfl, fun _ => rfl⟩
      · obtain ⟨l, k, hk⟩ : ∃ l k, txS (wdS s [sL, sType]) = (l, k) := ⟨_, _, rfl⟩
        rw [nodeR_go h0 hlong hk, nodeS_go (fun h => hlong h.2) hk]
        by_cases hk0 : k.2 = 0
        · have hk1 : ¬ k.2 ≠ 0 := fun h => h hk0
          rw [if_neg hk1, if_neg hk1]
          by_cases e1 : l = bytesOf sReg
          · rw [if_pos e1, if_pos e1]; exact ⟨rfl, rfl, fun _ => rfl⟩
          · rw [if_neg e1, if_neg e1]
            by_cases e2 : l = bytesOf sSym
            · rw [if_pos e2, if_pos e2]; exact ⟨rfl, rfl, fun _ => rfl⟩
            · rw [if_neg e2, if_neg e2]
              by_cases e3 : l = bytesOf sDir
              · rw [if_pos e3, if_pos e3]
                obtain ⟨g1, g2, g3⟩ := entS_as (nodeR F (deep + 1)) (nodeS F (deep + 1)) (fun s n m h => ih (deep + 1) s n m h) (k.1.length + 1) k (n + 1) (n + 1) ([], []) (fun _ => rfl)
                exact ⟨by rw [g1], g2, g3⟩
              · rw [if_neg e3, if_neg e3]
                unfold flS
                rw [if_pos hk0]
                exact ⟨rfl, rfl, fun _ => rfl⟩
        · rw [if_pos hk0, if_pos hk0]; exact ⟨rfl, rfl, fun _ => rfl⟩
    · rw [nodeR_bad h0, nodeS_bad h0]
      exact ⟨rfl, rfl, fun h => absurd h h0⟩
/-- how far node can count -/
theorem nodeR_len : ∀ (F deep : Nat) (s : RS × Nat), (nodeR F deep s).2.1.1.length ≤ s.1.1.length ∧ (nodeR F deep s).2.2 + (nodeR F deep s).2.1.1.length ≤ s.2 + 1 + s.1.1.length := by
  intro F
  induction F with
  | zero => intro deep s; rw [nodeR]; simp only; omega
  | succ F ih =>
    intro deep s
    obtain ⟨s, n⟩ := s
    by_cases h0 : s.2 = 0
    · by_cases hlong : 65536 < n + 1 ∨ 64 < deep
      · rw [nodeR_long h0 hlong]; simp only; omega
      · obtain ⟨l, k, hk⟩ : ∃ l k, txS (wdS s [sL, sType]) = (l, k) := ⟨_, _, rfl⟩
        have h1 := wdS_len [sL, sType] s
        have h2 := txS_len (wdS s [sL, sType])
        rw [hk] at h2
        simp only at h2
        rw [nodeR_go h0 hlong hk]
        split
        · simp only; omega
        · split
          · have := regS_len k; simp only; omega
          · split
            · have := symS_len k; simp only; omega
            · split
              · have := entS_len (nodeR F (deep + 1)) (ih (deep + 1)) (k.1.length + 1) (k, n + 1) ([], [])
                simp only at this ⊢
                omega
              · simp only; omega
    · rw [nodeR_bad h0]; simp only; omega
end Go.Proofs.Ythhajkmeadapgaa.Tree
/- nar's reference: what node's walk keeps. Own work. -/
namespace Go.Proofs.Ythhajkmeadapgaa.Tree
set_option linter.unusedVariables false
set_option linter.unusedSimpArgs false
open Go.RowKit Go.Proofs.Ythhajkmeadapgaa.PL Go.Proofs.Ythhajkmeadapgaa.Mn Go.Proofs.YthhajkmeadapgaaW.PrintWords Go.Proofs.YthhajkmeadapgaaW.PrintLast Go.Proofs.YthhajkmeadapgaaW.PrintMore
/-- a tree that is read wherever the blocks of D are as they are here -/
def KF (D : Nat → Prop) (w : World) (x : S26) (cs : List Value) : Prop := ∀ w' : World, (∀ k, D k → w'.heap[k]? = w.heap[k]?) → k26.K w' x cs
theorem KF.move {D : Nat → Prop} {w w1 : World} {x : S26} {cs : List Value} (h : KF D w x cs) (hm : ∀ k, D k → w1.heap[k]? = w.heap[k]?) : KF D w1 x cs := fun w' h' => h w' (fun k hk => (h' k hk).trans (hm k hk))
theorem KF.mono {D D' : Nat → Prop} {w : World} {x : S26} {cs : List Value} (h : KF D w x cs) (hd : ∀ k, D k → D' k) : KF D' w x cs := fun w' h' => h w' (fun k hk => h' k (hd k hk))
/-- cells of five as they lie -/
def kraw : Kd (List Value) where
  sz := 5
  E := []
  K := fun _ x cs => cs = x ∧ x.length = 5 ∧ ∀ u ∈ x, u.oneCell' = true
  M := fun _ _ _ x cs => cs = x ∧ x.length = 5 ∧ ∀ u ∈ x, u.oneCell' = true
  K_len := fun h => by rw [h.1]; exact h.2.1
  K_one := fun h => by rw [h.1]; exact h.2.2
  K_below := fun _ h => h
  K_of_M := fun h => h
  M_mono := fun _ h => h
  M_bound := fun h => h
  M_move := fun _ h => h
  M_lower := fun _ h => h
theorem kids_C {w : World} {A : Option Addr} {ks : List S26} {css : List (List Value)} (h : kraw.C w A css.length css) (hl : ks.length = css.length) (hk : ∀ (j : Nat) (x : S26) (c : List Value), ks[j]? = some x → css[j]? = some c → k26.K w x c) : k26.C w A ks.length ks := by
  obtain ⟨h1, h2, h3⟩ := h
  refine ⟨rfl, by omega, fun h0 => ?_⟩
  obtain ⟨ad, e, hc⟩ := h3 (by omega)
  refine ⟨ad, e, fun j p hp => ?_⟩
  have hj : j < css.length := by have := (List.getElem?_eq_some_iff.1 hp).1; omega
  obtain ⟨c, g1, g2, g3⟩ := hc j css[j] (List.getElem?_eq_getElem hj)
  have e1 : c = css[j] := g2.1
  subst e1
  exact ⟨_, g1, hk j p _ hp (List.getElem?_eq_getElem hj), g3⟩
/-- what node's walk keeps: the reader, a box of its own -/
structure BR (w0 w wr : World) (g p : Nat) (s : RS) (n : Nat) (cs : Array Value) : Prop where
  rd : RR w0 wr g s n
  bx : wr.heap[p]? = some (.cells cs 26 (0, 0))
  kp : KeepBut w wr g none
  np : p ≠ g
  lp : w.heap.size ≤ p
  lg : g < w.heap.size
theorem BR.keep {w0 w wr w2 : World} {g p : Nat} {s s2 : RS} {n n2 : Nat} {cs : Array Value} (h : BR w0 w wr g p s n cs) (hr : RR w0 w2 g s2 n2) (hk : KeepBut wr w2 g none) : BR w0 w w2 g p s2 n2 cs :=
  ⟨hr, hk.blk h.bx h.np (by simp), h.kp.trans hk (.inl rfl), h.np, h.lp, h.lg⟩
theorem BR.below {w0 w wr w2 : World} {g p : Nat} {s : RS} {n : Nat} {cs : Array Value} (h : BR w0 w wr g p s n cs) (hb : Below wr.heap.size wr w2) : BR w0 w w2 g p s n cs :=
  h.keep (h.rd.keep hb) (KeepBut.of_below hb g none)
theorem RR.far {w0 w : World} {g p : Nat} {s : RS} {n : Nat} (h : RR w0 w g s n) (hp : p ≠ g) (h0 : w0.heap.size ≤ p) (j : Nat) (v : Value) : RR w0 (w.setCell ⟨p, j, none⟩ v) g s n := by
  obtain ⟨A, c, h1, h2, h3⟩ := h.blk
  exact ⟨⟨A, c, blk_far h1 (p := ⟨p, j, none⟩) (fun e => hp e.symm) v, h2, h3⟩, below_set h.b h0, h.lo, h.b8⟩
theorem BR.set {w0 w wr : World} {g p : Nat} {s : RS} {n : Nat} {cs : Array Value} (h : BR w0 w wr g p s n cs) (j : Nat) (v : Value) : BR w0 w (wr.setCell ⟨p, j, none⟩ v) g p s n (cs.setIfInBounds j v) where
  rd := h.rd.far h.np (by have := h.rd.b.size; have := h.rd.lo; have := h.lp; have := h.lg; omega) j v
  bx := by simpa using blk_set h.bx j v
  kp := ⟨by simpa [World.setCell] using h.kp.1, fun i hi hg hr => (Below.heap_setCell wr ⟨p, j, none⟩ v i (by have := h.lp; show i ≠ p; omega)).trans (h.kp.2 i hi hg hr)⟩
  np := h.np
  lp := h.lp
  lg := h.lg
theorem BR.same {w0 w wr : World} {g p : Nat} {s : RS} {n : Nat} {a0 b0 c0 d0 e0 : Value} (h : BR w0 w wr g p s n #[a0, b0, c0, d0, e0]) (a b c d e : Value) : BR w0 w (((((wr.setCell ⟨p, 0, none⟩ a).setCell ⟨p, 1, none⟩ b).setCell ⟨p, 2, none⟩ c).setCell ⟨p, 3, none⟩ d).setCell ⟨p, 4, none⟩ e) g p s n #[a, b, c, d, e] := by
  have := ((((h.set 0 a).set 1 b).set 2 c).set 3 d).set 4 e
  simpa using this
theorem RR.grown {w0 W w1 : World} {g : Nat} {s : RS} {n : Nat} {row : Option Nat} (h : RR w0 W g s n) (hg : W.grownBy w1 row) (hr : ∀ k, row = some k → w0.heap.size ≤ k ∧ k ≠ g) : RR w0 w1 g s n := by
  obtain ⟨A, c, h1, h2, h3⟩ := h.blk
  exact ⟨⟨A, c, (hg.block _ (blk_lt h1) (fun he => (hr g he.symm).2 rfl)).trans h1, h2, h3⟩, h.b.grown hg h.b.size (fun k hk => (hr k hk).1), h.lo, h.b8⟩
/-- a kid whose blocks lie between lo and hi, away from the rows that grow -/
structure PK (w wr : World) (v3 v4 : Value) (lo hi : Nat) (x : S26) (c : List Value) : Prop where
  ha : w.heap.size ≤ lo
  hb : lo ≤ hi
  hc : hi ≤ wr.heap.size
  f : KF (fun k => lo ≤ k ∧ k < hi) wr x c
  o3 : ∀ k, v3.ownBlock = some k → k < lo ∨ hi ≤ k
  o4 : ∀ k, v4.ownBlock = some k → k < lo ∨ hi ≤ k
/-- what the entries' loop keeps -/
structure ER (w0 w wr : World) (g p : Nat) (s : RS) (n : Nat) (ns : List ByteArray) (ks : List S26) (css : List (List Value)) (v3 v4 : Value) : Prop where
  rd : RR w0 wr g s n
  bx : wr.heap[p]? = some (.cells #[.int .i64 2, .bool false, .slice none 0 0, v3, v4] 26 (0, 0))
  rn : Kd.string.R 9 wr w.heap.size (fun _ => True) v3 ns
  rk : kraw.R 26 wr w.heap.size (fun k => some k ≠ v3.ownBlock) v4 css
  len : ks.length = css.length
  kids : ∀ (j : Nat) (x : S26) (c : List Value), ks[j]? = some x → css[j]? = some c → ∃ lo hi, PK w wr v3 v4 lo hi x c
  kp : Kept w wr (fun k => k = g ∨ k = p)
  pg : p ≠ g
  gw : g < w.heap.size
  pw : p < w.heap.size
theorem PK.keep {w wr w2 : World} {v3 v4 : Value} {lo hi g : Nat} {x : S26} {c : List Value} (h : PK w wr v3 v4 lo hi x c) (hk : KeepBut wr w2 g none) (hg : g < w.heap.size) : PK w w2 v3 v4 lo hi x c :=
  ⟨h.ha, h.hb, Nat.le_trans h.hc hk.1, h.f.move (fun k hk' => hk.2 k (by have := h.hc; omega) (by have := h.ha; omega) (by simp)), h.o3, h.o4⟩
theorem ER.keep {w0 w wr w2 : World} {g p : Nat} {s s2 : RS} {n n2 : Nat} {ns : List ByteArray} {ks : List S26} {css : List (List Value)} {v3 v4 : Value} (h : ER w0 w wr g p s n ns ks css v3 v4) (hr : RR w0 w2 g s2 n2) (hk : KeepBut wr w2 g none) : ER w0 w w2 g p s2 n2 ns ks css v3 v4 where
  rd := hr
  bx := hk.blk h.bx h.pg (by simp)
  rn := Kd.R_mono (Kd.R_keep (Kd.R_bound h.rn) hk (fun k hk => by have := h.gw; omega)) (fun _ _ => trivial)
  rk := Kd.R_mono (Kd.R_keep (Kd.R_bound h.rk) hk (fun k hk => by have := h.gw; omega)) (fun _ h => h.1)
  len := h.len
  kids := fun j x c hx hc => by
    obtain ⟨lo, hi, hp⟩ := h.kids j x c hx hc
    exact ⟨lo, hi, hp.keep hk h.gw⟩
  kp := h.kp.of_keep hk (.inl (.inl rfl))
  pg := h.pg
  gw := h.gw
  pw := h.pw
theorem ER.below {w0 w wr w2 : World} {g p : Nat} {s : RS} {n : Nat} {ns : List ByteArray} {ks : List S26} {css : List (List Value)} {v3 v4 : Value} (h : ER w0 w wr g p s n ns ks css v3 v4) (hb : Below wr.heap.size wr w2) : ER w0 w w2 g p s n ns ks css v3 v4 :=
  h.keep (h.rd.keep hb) (KeepBut.of_below hb g none)
section
variable {w0 w W w1 : World} {g p : Nat} {s : RS} {n : Nat} {ns : List ByteArray} {ks : List S26} {css : List (List Value)} {v3 v4 v1 : Value}
/-- a kid beside a row that has grown, and a store into the box -/
theorem PK.app3 {lo hi : Nat} {x : S26} {c : List Value} (h : PK w W v3 v4 lo hi x c) (hg : W.grownBy w1 v3.ownBlock) (hat : v1.ownBlock = v3.ownBlock ∨ ∃ b, v1.ownBlock = some b ∧ W.heap.size ≤ b) (hp : p < w.heap.size) (u : Value) : PK w (w1.setCell ⟨p, 3, none⟩ u) v1 v4 lo hi x c := by
  refine ⟨h.ha, h.hb, by have := h.hc; have := hg.size; simp [World.setCell]; omega, h.f.move (fun k hk => (Below.heap_setCell w1 ⟨p, 3, none⟩ u k (by have := h.ha; show k ≠ p; omega)).trans (hg.block k (by have := h.hc; omega) (fun he => by have := h.o3 k he.symm; omega))), fun k hk => ?_, h.o4⟩
  rcases hat with e | ⟨b, e, hb⟩
  · exact h.o3 k (e.symm.trans hk)
  · rw [e] at hk
    injection hk with hk
    have := h.hc
    omega
theorem PK.app4 {lo hi : Nat} {x : S26} {c : List Value} (h : PK w W v3 v4 lo hi x c) (hg : W.grownBy w1 v4.ownBlock) (hat : v1.ownBlock = v4.ownBlock ∨ ∃ b, v1.ownBlock = some b ∧ W.heap.size ≤ b) (hp : p < w.heap.size) (u : Value) : PK w (w1.setCell ⟨p, 4, none⟩ u) v3 v1 lo hi x c := by
  refine ⟨h.ha, h.hb, by have := h.hc; have := hg.size; simp [World.setCell]; omega, h.f.move (fun k hk => (Below.heap_setCell w1 ⟨p, 4, none⟩ u k (by have := h.ha; show k ≠ p; omega)).trans (hg.block k (by have := h.hc; omega) (fun he => by have := h.o4 k he.symm; omega))), h.o3, fun k hk => ?_⟩
  rcases hat with e | ⟨b, e, hb⟩
  · exact h.o4 k (e.symm.trans hk)
  · rw [e] at hk
    injection hk with hk
    have := h.hc
    omega
theorem ER.app3 (h : ER w0 w W g p s n ns ks css v3 v4) (h0 : w0.heap.size ≤ p) (hw0 : w0.heap.size ≤ w.heap.size) {ns2 : List ByteArray} (hr : Kd.string.R 9 w1 w.heap.size (fun _ => True) v1 ns2) (hg : W.grownBy w1 v3.ownBlock) (hat : v1.ownBlock = v3.ownBlock ∨ ∃ b, v1.ownBlock = some b ∧ W.heap.size ≤ b) :
    ER w0 w (w1.setCell ⟨p, 3, none⟩ v1) g p s n ns2 ks css v1 v4 := by
  have o3 := fun k hk => R_own h.rn k hk
  have hbx := (hg.block _ (blk_lt h.bx) (fun he => by have := o3 p he.symm; have := h.pw; omega)).trans h.bx
  have hb1 := blk_set hbx 3 v1
  have far : ∀ k, k ≠ p → (w1.setCell ⟨p, 3, none⟩ v1).heap[k]? = w1.heap[k]? := fun k hk => Below.heap_setCell _ ⟨p, 3, none⟩ v1 k hk
  refine ⟨(h.rd.grown hg (fun k hk => by have := o3 k hk; have := h.gw; omega)).far h.pg h0 3 v1, by simpa using hb1, ?_, ?_, h.len, fun j x c hx hc => ?_, (h.kp.of_grown hg (fun k hk => .inr (o3 k hk).1)).setCell (p := ⟨p, 3, none⟩) (.inl (.inr rfl)) v1, h.pg, h.gw, h.pw⟩
  · exact Kd.R_mono (Kd.R_step (Kd.R_bound hr) (fun k hk _ => far k (by have := h.pw; omega))) (fun _ _ => trivial)
  · have h4 : kraw.R 26 w1 w.heap.size (fun k => some k ≠ v1.ownBlock) v4 css := by
      refine Kd.R_mono (Kd.R_grown (Kd.R_bound h.rk) hg (fun k hk => hk.1)) (fun k hk he => ?_)
      rcases hat with e | ⟨b, e, hb⟩
      · exact hk.1 (he.trans e)
      · rw [e] at he
        injection he with he
        have := hk.2.2.1
        omega
    exact Kd.R_mono (Kd.R_step (Kd.R_bound h4) (fun k hk _ => far k (by have := h.pw; omega))) (fun _ hk => hk.1)
  · obtain ⟨lo, hi, hp⟩ := h.kids j x c hx hc
    exact ⟨lo, hi, hp.app3 hg hat h.pw v1⟩
theorem ER.app4 (h : ER w0 w W g p s n ns ks css v3 v4) (h0 : w0.heap.size ≤ p) (hw0 : w0.heap.size ≤ w.heap.size) {lo hi : Nat} {x : S26} {c : List Value} (hx : PK w W v3 v4 lo hi x c) (hr : kraw.R 26 w1 w.heap.size (fun k => some k ≠ v3.ownBlock) v1 (css ++ [c])) (hg : W.grownBy w1 v4.ownBlock) (hat : v1.ownBlock = v4.ownBlock ∨ ∃ b, v1.ownBlock = some b ∧ W.heap.size ≤ b) :
    ER w0 w (w1.setCell ⟨p, 4, none⟩ v1) g p s n ns (ks ++ [x]) (css ++ [c]) v3 v1 := by
  have o4 := fun k hk => R_own h.rk k hk
  have hbx := (hg.block _ (blk_lt h.bx) (fun he => by have := o4 p he.symm; have := h.pw; omega)).trans h.bx
  have hb1 := blk_set hbx 4 v1
  have far : ∀ k, k ≠ p → (w1.setCell ⟨p, 4, none⟩ v1).heap[k]? = w1.heap[k]? := fun k hk => Below.heap_setCell _ ⟨p, 4, none⟩ v1 k hk
  have hne : v4.ownBlock ≠ v3.ownBlock ∨ v4.ownBlock = none := by
    cases he : v4.ownBlock with
    | none => exact .inr rfl
    | some k => exact .inl (h.rk.1 k he)
  refine ⟨(h.rd.grown hg (fun k hk => by have := o4 k hk; have := h.gw; omega)).far h.pg h0 4 v1, by simpa using hb1, ?_, ?_, by rw [List.length_append, List.length_append, h.len]; rfl, fun j y d hy hd => ?_, (h.kp.of_grown hg (fun k hk => .inr (o4 k hk).1)).setCell (p := ⟨p, 4, none⟩) (.inl (.inr rfl)) v1, h.pg, h.gw, h.pw⟩
  · have h3 : Kd.string.R 9 w1 w.heap.size (fun _ => True) v3 ns := by
      refine Kd.R_mono (Kd.R_grown (Kd.R_tight rfl h.rn) hg (fun k hk he => ?_)) (fun _ _ => trivial)
      rcases hne with hne | hne
      · exact hne (he.symm.trans hk)
      · rw [hne] at he; cases he
    exact Kd.R_mono (Kd.R_step (Kd.R_bound h3) (fun k hk _ => far k (by have := h.pw; omega))) (fun _ _ => trivial)
  · exact Kd.R_mono (Kd.R_step (Kd.R_bound hr) (fun k hk _ => far k (by have := h.pw; omega))) (fun _ hk => hk.1)
  · have hjl : j < ks.length ∨ j = ks.length := by
      have := (List.getElem?_eq_some_iff.1 hy).1
      rw [List.length_append, List.length_singleton] at this
      omega
    rcases hjl with hj | hj
    · rw [List.getElem?_append_left hj] at hy
      rw [List.getElem?_append_left (by rw [← h.len]; exact hj)] at hd
      obtain ⟨lo2, hi2, hp⟩ := h.kids j y d hy hd
      exact ⟨lo2, hi2, hp.app4 hg hat h.pw v1⟩
    · subst hj
      rw [List.getElem?_append_right (Nat.le_refl _), Nat.sub_self] at hy
      rw [List.getElem?_append_right (by rw [h.len]; exact Nat.le_refl _), h.len, Nat.sub_self] at hd
      simp only [List.getElem?_cons_zero, Option.some.injEq] at hy hd
      subst hy hd
      exact ⟨lo, hi, hx.app4 hg hat h.pw v1⟩
end
/-- a directory that is whole -/
theorem ER.tree {w0 w wr : World} {g p : Nat} {s : RS} {n : Nat} {ns : List ByteArray} {ks : List S26} {css : List (List Value)} {v3 v4 : Value} (h : ER w0 w wr g p s n ns ks css v3 v4) :
    KF (fun k => w.heap.size ≤ k ∧ k < wr.heap.size) wr ⟨2, false, [], ns, ks⟩ [.int .i64 2, .bool false, .slice none 0 0, v3, v4] := by
  obtain ⟨A3, c3, rfl⟩ := Kd.R_slice h.rn
  obtain ⟨A4, c4, rfl⟩ := Kd.R_slice h.rk
  intro w' hm
  have h3 := Kd.R_move (Kd.R_bound h.rn) (w1 := w') (fun k hk => hm k ⟨hk.2.1, hk.2.2.1⟩)
  have h4 := Kd.R_move (Kd.R_bound h.rk) (w1 := w') (fun k hk => hm k ⟨hk.2.1, hk.2.2.1⟩)
  obtain ⟨-, g1, g2⟩ := Kd.R_reads' h3
  obtain ⟨-, g3, g4⟩ := Kd.R_reads' h4
  have g5 := kids_C g4 h.len (fun j x c hx hc => by
    obtain ⟨lo, hi, hp⟩ := h.kids j x c hx hc
    exact hp.f w' (fun k hk => hm k (by have := hp.ha; have := hp.hc; omega)))
  have := k26_mk w' ⟨2, false, [], ns, ks⟩ (A2 := none) (c2 := 0) (Nat.le_refl _) (Kd.C_nil _ _) g1 g2 (A4 := A4) (c4 := c4) (by show ks.length ≤ _; rw [h.len]; exact g3) g5
  rw [← h.len]
  exact this
end Go.Proofs.Ythhajkmeadapgaa.Tree
/- nar's reference: node walked, its ends. Own work; printed by gen_rfd.py. -/
namespace Go.Proofs.Ythhajkmeadapgaa.Tree
set_option linter.unusedVariables false
set_option linter.unusedSimpArgs false
open Go.RowKit Go.Proofs.Ythhajkmeadapgaa.PL Go.Proofs.Ythhajkmeadapgaa.Mn Go.Proofs.YthhajkmeadapgaaW.PrintWords Go.Proofs.YthhajkmeadapgaaW.PrintLast Go.Proofs.YthhajkmeadapgaaW.PrintMore
/-- the reference's node, for so many floors below -/
def NRP (w0 w : World) (g F : Nat) (T : S26 × RS × Nat) (e : Ending) (w' : World) : Prop := ∃ cs : Array Value, e = .returned (.agg cs) ∧ KF (fun k => w.heap.size ≤ k ∧ k < w'.heap.size) w' T.1 cs.toList ∧ GT F T.1 ∧ RR w0 w' g T.2.1 T.2.2 ∧ KeepBut w w' g none
def NRC (w0 : World) (g F : Nat) : Prop := ∀ (deep : Nat) (s : RS) (n : Nat) (w : World), deep + F = 66 → RR w0 w g s n → s.1.length ≤ 1073741824 → n + s.1.length ≤ 1099511627776 →
  Calls Try.prog 50 #[.pointer (some ⟨g, 0, none⟩), .int .i64 (deep : Int)] w (NRP w0 w g F (nodeR F deep (s, n)))
theorem NR_post {T : S26 × RS × Nat} {w0 w w' : World} {g F m : Nat} {x : S26} {q : RS} {cs : Array Value} (hT : T = (x, q, m)) (hM : KF (fun k => w.heap.size ≤ k ∧ k < w'.heap.size) w' x cs.toList) (hG : GT F x) (hr : RR w0 w' g q m) (hk : KeepBut w w' g none) : NRP w0 w g F T (.returned (.agg cs)) w' := by
  subst hT
  exact ⟨cs, rfl, hM, hG, hr, hk⟩
theorem KF_z0 (D : Nat → Prop) (w : World) : KF D w z0 [.int .i64 0, .bool false, .slice none 0 0, .slice none 0 0, .slice none 0 0] := fun w' _ => k26_mk w' z0 (Nat.le_refl _) (Kd.C_nil _ _) (Nat.le_refl _) (Kd.C_nil _ _) (Nat.le_refl _) (Kd.C_nil _ _)
theorem BR.fin {w0 w w1 wr : World} {g p q : Nat} {s s0 : RS} {n n0 : Nat} {cs cs2 : Array Value} (h1 : BR w0 w w1 g p s0 n0 cs) (h2 : BR w0 w1 wr g q s n cs2) : BR w0 w wr g p s n cs :=
  ⟨h2.rd, h2.kp.blk h1.bx h1.np (by simp), h1.kp.trans h2.kp (.inl rfl), h1.np, h1.lp, h1.lg⟩
theorem KF_five {w w1 wr : World} {p : Nat} {x : S26} {cs : List Value} {a b c d e : Value} (h : KF (fun k => w1.heap.size ≤ k ∧ k < wr.heap.size) wr x cs) (hp : p < w1.heap.size) (hw : w.heap.size ≤ w1.heap.size) :
    KF (fun k => w.heap.size ≤ k ∧ k < (((((wr.setCell ⟨p, 0, none⟩ a).setCell ⟨p, 1, none⟩ b).setCell ⟨p, 2, none⟩ c).setCell ⟨p, 3, none⟩ d).setCell ⟨p, 4, none⟩ e).heap.size) (((((wr.setCell ⟨p, 0, none⟩ a).setCell ⟨p, 1, none⟩ b).setCell ⟨p, 2, none⟩ c).setCell ⟨p, 3, none⟩ d).setCell ⟨p, 4, none⟩ e) x cs := by
  have st : ∀ (W : World) (j : Nat) (v : Value) (k : Nat), k ≠ p → (W.setCell ⟨p, j, none⟩ v).heap[k]? = W.heap[k]? := fun W j v k hk => Below.heap_setCell W ⟨p, j, none⟩ v k hk
  refine (h.move (fun k hk => ?_)).mono (fun k hk => ?_)
  · have hk : k ≠ p := by omega
    rw [st _ 4 e k hk, st _ 3 d k hk, st _ 2 c k hk, st _ 1 b k hk, st _ 0 a k hk]
  · simp only [World.setCell, Array.size_modify]
    omega
set_option maxRecDepth 20000 in
set_option maxHeartbeats 4000000 in
theorem rnode_bad (w0 : World) (g F : Nat) (deep : Nat) (s : RS) (n : Nat) (w : World) (hd : deep + F = 65) (hR : RR w0 w g s n) (hl : s.1.length ≤ 1073741824) (hn : n + s.1.length ≤ 1099511627776) (hs : s.2 ≠ 0) :
    Calls Try.prog 50 #[.pointer (some ⟨g, 0, none⟩), .int .i64 (deep : Int)] w (NRP w0 w g (F + 1) (nodeR (F + 1) deep (s, n))) := by
  obtain ⟨T, hT⟩ : ∃ q, nodeR (F + 1) deep (s, n) = q := ⟨_, rfl⟩
  rw [hT]
  have HT := Aside0.mk hT
  clear hT
  have hgl : g < w.heap.size := by obtain ⟨A, c, h1, -, -⟩ := hR.blk; exact blk_lt h1
  have HP1 : Aside0 (BR w0 w (w.alloc (.cells #[.int .i64 0, .bool false, .slice none 0 0, .slice none 0 0, .slice none 0 0] 26)) g w.heap.size s n #[.int .i64 0, .bool false, .slice none 0 0, .slice none 0 0, .slice none 0 0]) :=
    ⟨⟨hR.keep (below_alloc (Below.refl _ w) _), heap_alloc_new w _, KeepBut.of_below (below_alloc (Below.refl _ w) _) g none, by omega, Nat.le_refl _, hgl⟩⟩
  have he : (s.2 != 0) = true := by simpa using hs
  have HTT : Aside0 (T = (z0, s, n)) := ⟨by rw [← HT.out]; exact nodeR_bad hs⟩
  clear hs
  clear hR hgl
  go_enter Try.func50, Try.ntmps50
  go_upto_region 1 with fail
  generalize (w.alloc (.cells #[.int .i64 0, .bool false, .slice none 0 0, .slice none 0 0, .slice none 0 0] 26)) = w1 at *
  obtain ⟨p, hp⟩ : ∃ q, w.heap.size = q := ⟨_, rfl⟩
  rw [hp] at HP1 ⊢
  have HP : Aside0 (w.heap.size = p) := ⟨hp⟩
  clear hp
  obtain ⟨A, c, hblk, hc, hC⟩ := HP1.out.rd.blk
  obtain ⟨⟨p0, p1, p2⟩, q0, q1, q2⟩ := cells3 hblk
  obtain ⟨b0, b1, b2, b3, b4⟩ := cells5 HP1.out.bx
  have f0 := blk_frozen HP1.out.bx 0
  have f1 := blk_frozen HP1.out.bx 1
  have f2 := blk_frozen HP1.out.bx 2
  have f3 := blk_frozen HP1.out.bx 3
  have f4 := blk_frozen HP1.out.bx 4
  have HF := Aside0.mk (HP1.out.same (.int .i64 0) (.bool false) (.slice none 0 0) (.slice none 0 0) (.slice none 0 0))
  go_wp2_with fail
  exact bodyPost_ret (results_cell_row rfl _ _ p 26 _ (0, 0) _ rfl HF.out.bx Try.underlying26 rfl (by kernel_rfl)) rfl (NR_post HTT.out (KF_z0 _ _) (GT_z0 F) HF.out.rd HF.out.kp)
set_option maxRecDepth 20000 in
set_option maxHeartbeats 4000000 in
theorem rnode_long (w0 : World) (g F : Nat) (deep : Nat) (s : RS) (n : Nat) (w : World) (hd : deep + F = 65) (hR : RR w0 w g s n) (hl : s.1.length ≤ 1073741824) (hn : n + s.1.length ≤ 1099511627776) (hs : s.2 = 0) (hq : 65536 < n + 1 ∨ 64 < deep) :
    Calls Try.prog 50 #[.pointer (some ⟨g, 0, none⟩), .int .i64 (deep : Int)] w (NRP w0 w g (F + 1) (nodeR (F + 1) deep (s, n))) := by
  obtain ⟨T, hT⟩ : ∃ q, nodeR (F + 1) deep (s, n) = q := ⟨_, rfl⟩
  rw [hT]
  have HT := Aside0.mk hT
  clear hT
  have hgl : g < w.heap.size := by obtain ⟨A, c, h1, -, -⟩ := hR.blk; exact blk_lt h1
  have HP1 : Aside0 (BR w0 w (w.alloc (.cells #[.int .i64 0, .bool false, .slice none 0 0, .slice none 0 0, .slice none 0 0] 26)) g w.heap.size s n #[.int .i64 0, .bool false, .slice none 0 0, .slice none 0 0, .slice none 0 0]) :=
    ⟨⟨hR.keep (below_alloc (Below.refl _ w) _), heap_alloc_new w _, KeepBut.of_below (below_alloc (Below.refl _ w) _) g none, by omega, Nat.le_refl _, hgl⟩⟩
  have HTT : Aside0 (T = (z0, (s.1, 5), n + 1)) := ⟨by rw [← HT.out]; exact nodeR_long hs hq⟩
  clear hR hgl
  go_enter Try.func50, Try.ntmps50
  go_upto_region 1 with fail
  generalize (w.alloc (.cells #[.int .i64 0, .bool false, .slice none 0 0, .slice none 0 0, .slice none 0 0] 26)) = w1 at *
  obtain ⟨p, hp⟩ : ∃ q, w.heap.size = q := ⟨_, rfl⟩
  rw [hp] at HP1 ⊢
  have HP : Aside0 (w.heap.size = p) := ⟨hp⟩
  clear hp
  obtain ⟨A, c, hblk, hc, hC⟩ := HP1.out.rd.blk
  obtain ⟨⟨p0, p1, p2⟩, q0, q1, q2⟩ := cells3 hblk
  have he : (s.2 != 0) = false := by simp [hs]
  have hst : RR w0 (w1.setCell ⟨g, 2, none⟩ (.int .i64 ((n : Int) + 1))) g s (n + 1) := ⟨⟨A, c, by simpa using blk_set hblk 2 (.int .i64 ((n : Int) + 1)), hc, hC⟩, below_set HP1.out.rd.b HP1.out.rd.lo, HP1.out.rd.lo, HP1.out.rd.b8⟩
  have HB := Aside0.mk (And.intro hst (KeepBut.set_ (KeepBut.refl w1 g none) 2 (.int .i64 ((n : Int) + 1))))
  clear hst hblk hc hC
  go_upto_region 4 with fail
  clear p0 p1 p2 q0 q1 q2 he
  generalize (w1.setCell ⟨g, 2, none⟩ (.int .i64 ((n : Int) + 1))) = w2 at *
  obtain ⟨Ar, cr, hblk, -, -⟩ := HB.out.1.blk
  obtain ⟨⟨-, pe, pn⟩, -, qe, -⟩ := cells3 hblk
  rw [show (((n + 1 : Nat)) : Int) = (n : Int) + 1 from by omega] at pn
  clear hblk
  by_cases h1 : 65536 < n + 1
  · have h1' : decide ((n : Int) + 1 > 65536) = true := decide_eq_true (by omega)
    clear hq
    have HE : Aside0 (BR w0 w (w2.setCell ⟨g, 1, none⟩ (.int .i64 5)) g p (s.1, 5) (n + 1) #[.int .i64 0, .bool false, .slice none 0 0, .slice none 0 0, .slice none 0 0]) := ⟨⟨HB.out.1.err 5, (KeepBut.set_ HB.out.2 1 _).blk HP1.out.bx HP1.out.np (by simp), HP1.out.kp.trans (KeepBut.set_ HB.out.2 1 _) (.inl rfl), HP1.out.np, HP1.out.lp, HP1.out.lg⟩⟩
    go_upto_region 6 with fail
    generalize (w2.setCell ⟨g, 1, none⟩ (.int .i64 5)) = w3 at *
    clear pe pn qe
    obtain ⟨b0, b1, b2, b3, b4⟩ := cells5 HE.out.bx
    have f0 := blk_frozen HE.out.bx 0
    have f1 := blk_frozen HE.out.bx 1
    have f2 := blk_frozen HE.out.bx 2
    have f3 := blk_frozen HE.out.bx 3
    have f4 := blk_frozen HE.out.bx 4
    have HF := Aside0.mk (HE.out.same (.int .i64 0) (.bool false) (.slice none 0 0) (.slice none 0 0) (.slice none 0 0))
    go_wp2_with fail
    exact bodyPost_ret (results_cell_row rfl _ _ p 26 _ (0, 0) _ rfl HF.out.bx Try.underlying26 rfl (by kernel_rfl)) rfl (NR_post HTT.out (KF_z0 _ _) (GT_z0 F) HF.out.rd HF.out.kp)
  · have h1' : decide ((n : Int) + 1 > 65536) = false := decide_eq_false (by omega)
    have h2' : decide ((deep : Int) > 64) = true := decide_eq_true (by omega)
    clear hq
    have HE : Aside0 (BR w0 w (w2.setCell ⟨g, 1, none⟩ (.int .i64 5)) g p (s.1, 5) (n + 1) #[.int .i64 0, .bool false, .slice none 0 0, .slice none 0 0, .slice none 0 0]) := ⟨⟨HB.out.1.err 5, (KeepBut.set_ HB.out.2 1 _).blk HP1.out.bx HP1.out.np (by simp), HP1.out.kp.trans (KeepBut.set_ HB.out.2 1 _) (.inl rfl), HP1.out.np, HP1.out.lp, HP1.out.lg⟩⟩
    go_upto_region 6 with fail
    generalize (w2.setCell ⟨g, 1, none⟩ (.int .i64 5)) = w3 at *
    clear pe pn qe
    obtain ⟨b0, b1, b2, b3, b4⟩ := cells5 HE.out.bx
    have f0 := blk_frozen HE.out.bx 0
    have f1 := blk_frozen HE.out.bx 1
    have f2 := blk_frozen HE.out.bx 2
    have f3 := blk_frozen HE.out.bx 3
    have f4 := blk_frozen HE.out.bx 4
    have HF := Aside0.mk (HE.out.same (.int .i64 0) (.bool false) (.slice none 0 0) (.slice none 0 0) (.slice none 0 0))
    go_wp2_with fail
    exact bodyPost_ret (results_cell_row rfl _ _ p 26 _ (0, 0) _ rfl HF.out.bx Try.underlying26 rfl (by kernel_rfl)) rfl (NR_post HTT.out (KF_z0 _ _) (GT_z0 F) HF.out.rd HF.out.kp)
end Go.Proofs.Ythhajkmeadapgaa.Tree
