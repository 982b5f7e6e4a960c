/- nar's reader: fromNumber, text. Own work. -/
import Derived.Test.YthhajkmeadapgaaEnK
import Derived.Deep.RegionLaw
import Derived.Deep.RegionHeld3
import Derived.Deep.MidRow
namespace Go.Proofs.Ythhajkmeadapgaa.Tree
set_option linter.unusedVariables false
set_option linter.unusedSimpArgs false
open Go.RowKit Go.Proofs.Ythhajkmeadapgaa.PL Go.Proofs.Ythhajkmeadapgaa.Mn Go.Proofs.YthhajkmeadapgaaW.PrintWords Go.Proofs.YthhajkmeadapgaaW.PrintLast Go.Proofs.YthhajkmeadapgaaW.PrintMore
theorem andNot7 (x : Nat) (hx : x < 4611686018427387904) : Go.bits .andNot .i64 (x : Int) 7 = ((x / 8 * 8 : Nat) : Int) := by
  have h7 : ∀ i, i < 64 → (7#64).getLsbD i = decide (i < 3) := by decide
  have e : (BitVec.ofNat 64 x &&& ~~~ 7#64) = (BitVec.ofNat 64 x >>> 3) <<< 3 := by
    ext i hi
    have h := h7 i hi
    rw [BitVec.getLsbD_eq_getElem hi] at h
    simp only [BitVec.getElem_and, BitVec.getElem_not, BitVec.getElem_shiftLeft, h]
    by_cases h : i < 3
    · simp [h]
    · have h2 : 3 + (i - 3) = i := by omega
      simp [h, BitVec.getLsbD_ushiftRight, h2, BitVec.getLsbD_eq_getElem hi]
  have e2 : (BitVec.ofNat 64 x &&& ~~~ 7#64).toNat = x / 8 * 8 := by
    rw [e, BitVec.toNat_shiftLeft, BitVec.toNat_ushiftRight, BitVec.toNat_ofNat, Nat.shiftRight_eq_div_pow, Nat.shiftLeft_eq]
    have : (2 : Nat) ^ 64 = 18446744073709551616 := by decide
    rw [this]
    omega
  show IntKind.i64.wrap ((BitVec.ofInt 64 (x : Int) &&& ~~~ BitVec.ofInt 64 7).toNat : Int) = _
  rw [BitVec.ofInt_natCast, show BitVec.ofInt 64 7 = 7#64 from rfl, e2, IntKind.wrap_i64]
  omega
theorem u64_or_low (s a c : Nat) (h : a < 2 ^ s) (hs : a + c * 2 ^ s < 18446744073709551616) : Go.bits .or .u64 (a : Int) ((c * 2 ^ s : Nat) : Int) = ((a + c * 2 ^ s : Nat) : Int) := by
  rw [bits_or_nat .u64 64 (by decide) (fun n h0 h1 => wu64 h0 (Int.lt_of_lt_of_le h1 (Int.le_of_eq (by decide +kernel)))) _ _ (by show _ < 18446744073709551616; omega) (by show _ < 18446744073709551616; omega), or_low s a c h]
theorem num_step (out : List Int) (hb : B8 out) (ho : out.length ≤ 8) (k : Nat) (hk : k < out.length) :
    Go.bits .or .u64 ((V (out.take k) : Nat) : Int) (IntKind.u64.wrap (IntKind.u64.wrap (rd out (k : Int)) * 2 ^ (8 * k))) = ((V (out.take (k + 1)) : Nat) : Int) := by
  have hg := hb.getD k
  rw [wu64 (n := rd out (k : Int)) (hb.rd _).1 (by have := (hb.rd (k : Int)).2; omega)]
  have h1 := V_lt (hb.take k)
  rw [List.length_take, Nat.min_eq_left (by omega), show (256 : Nat) = 2 ^ 8 from rfl, ← Nat.pow_mul] at h1
  have h2 := V_lt (hb.take (k + 1))
  rw [List.length_take, Nat.min_eq_left (by omega)] at h2
  have h3 : 256 ^ (k + 1) ≤ 256 ^ 8 := Nat.pow_le_pow_right (by decide) (by omega)
  have e := V_take_succ out k hk
  rw [show (256 : Nat) ^ k = 2 ^ (8 * k) from by rw [show (256 : Nat) = 2 ^ 8 from rfl, ← Nat.pow_mul], Nat.mul_comm] at e
  have hc : rd out (k : Int) * 2 ^ (8 * k) = (((out.getD k 0).toNat * 2 ^ (8 * k) : Nat) : Int) := by
    rw [rd_nat, Int.natCast_mul, Int.toNat_of_nonneg hg.1, Int.natCast_pow]; rfl
  have h4 : (256 : Nat) ^ 8 = 18446744073709551616 := by decide
  have h5 : V (out.take k) + (out.getD k 0).toNat * 2 ^ (8 * k) < 18446744073709551616 := by rw [← e, ← h4]; exact Nat.lt_of_lt_of_le h2 h3
  rw [hc, wu64 (Int.natCast_nonneg _) (by have := Nat.lt_of_le_of_lt (Nat.le_add_left _ (V (out.take k))) h5; omega), u64_or_low _ _ _ h1 h5, e]
theorem take_C {w : World} {A : Option Addr} {l : List Int} (h : (Kd.int .u8).C w A l.length l) (m : Nat) (hm : m ≤ l.length) : (Kd.int .u8).C w A m (l.take m) :=
  Kd.C_of_reads (h1 := fun _ => rfl) ((Kd.reads_of_C (d := (0 : Int)) h).take_ m hm)
set_option maxRecDepth 20000 in
set_option maxHeartbeats 1000000 in
theorem fromNumber_any (A : Option Addr) (c : Nat) (l : List Int) (w : World) (hC : (Kd.int .u8).C w A l.length l) (hc : l.length ≤ c) (h8 : 8 ≤ l.length) (hb : B8 l) :
    Calls Try.prog 81 #[.slice A l.length c] w fun e w' => e = .returned (.int .u64 ((V (l.take 8) : Nat) : Int)) ∧ w' = w := by
  have HC := Aside0.mk (take_C hC 8 h8)
  have hol : (l.take 8).length = 8 := by rw [List.length_take]; omega
  have hob : B8 (l.take 8) := hb.take 8
  obtain ⟨i0, hi0, _, hsz0, _⟩ := info_parts info5
  obtain ⟨hcut, _, _⟩ := print_take_of (P := Try.prog) (Value.int .u8) 0 22 5 .i64 Try.underlying22 hi0 hsz0 A c l (8 : Int) (by omega) (by omega) hc
  rw [show (8 : Int).toNat = 8 from rfl, hol] at hcut
  obtain ⟨out, hout⟩ : ∃ o, l.take 8 = o := ⟨_, rfl⟩
  rw [hout] at HC hol hob ⊢
  have HOB := Aside0.mk hob
  clear hi0 hsz0 hC hob hout hb
  go_enter Try.func81, Try.ntmps81
  go_wp2_with fail
  go_loop [3, 9] (fun v i => ∃ k : Nat, k ≤ 8 ∧ v = .int .u64 ((V (out.take k) : Nat) : Int) ∧ i = .int .i64 (k : Int)) (fun _ i => 8 - (intOf i).toNat)
  case atStart => exact ⟨0, Nat.zero_le _, rfl, rfl⟩
  case round =>
    obtain ⟨k, hk, rfl, rfl⟩ := hrel
    by_cases hlt : k < 8
    · obtain ⟨ad, hA, hcell⟩ := Kd.at_int HC.out (k : Int) (Int.natCast_nonneg _) (by omega)
      subst hA
      rw [Int.toNat_natCast] at hcell
      have hst := Lib.hid (num_step out HOB.out (by omega) k (by omega))
      go_wp2_with fail
      refine ⟨⟨k + 1, by omega, ?_, by go_num⟩, by simp [intOf]; omega⟩
      rw [hst.out]
    · have hkk : k = 8 := by omega
      subst hkk
      go_wp2_with fail
      have ht : out.take 8 = out := by rw [List.take_of_length_le (by omega)]
      rw [ht]
      exact bodyPost_ret (v := .int .u64 ((V out : Nat) : Int)) (by simp [results, Try.results81, go_sem]) rfl ⟨rfl, rfl⟩
/-! ### the reader's plain law -/
/-- the next text of bytes, and what is left; or what is wrong -/
def rdT (b : List Int) : Except Int (List Int × List Int) :=
  if b.length < 8 then .error 2
  else if 2097152 < V (b.take 8) then .error 3
  else if (b.drop 8).length < (V (b.take 8) + 7) / 8 * 8 then .error 2
  else if (((b.drop 8).take ((V (b.take 8) + 7) / 8 * 8)).drop (V (b.take 8))).all (· == 0) = false then .error 3
  else .ok ((b.drop 8).take (V (b.take 8)), (b.drop 8).drop ((V (b.take 8) + 7) / 8 * 8))
/-- what is left, and the first error -/
abbrev RS := List Int × Int
def txS (s : RS) : List Int × RS := if s.2 ≠ 0 then ([], s) else match rdT s.1 with
  | .ok (x, r) => (x, (r, 0))
  | .error k => ([], (s.1, k))
/-- the reader in block g, told -/
structure RD (w0 w : World) (g : Nat) (s : RS) (n : Nat) : Prop where
  blk : ∃ A c, w.heap[g]? = some (.cells #[.slice A s.1.length c, .int .i64 s.2, .int .i64 n] 77 (0, 0)) ∧ s.1.length ≤ c ∧ (Kd.int .u8).C w0 A s.1.length s.1
  b : Below w0.heap.size w0 w
  lo : w0.heap.size ≤ g
  b8 : B8 s.1
theorem cells3 {w : World} {g t : Nat} {a b c : Value} (h : w.heap[g]? = some (.cells #[a, b, c] t (0, 0))) : (w.cell? ⟨g, 0, none⟩ = some a ∧ w.cell? ⟨g, 1, none⟩ = some b ∧ w.cell? ⟨g, 2, none⟩ = some c) ∧ w.frozen? ⟨g, 0, none⟩ = false ∧ w.frozen? ⟨g, 1, none⟩ = false ∧ w.frozen? ⟨g, 2, none⟩ = false :=
  ⟨⟨(blk_cell h 0).trans rfl, (blk_cell h 1).trans rfl, (blk_cell h 2).trans rfl⟩, blk_frozen h 0, blk_frozen h 1, blk_frozen h 2⟩
theorem RD.keep {w0 w w2 : World} {g : Nat} {s : RS} {n : Nat} (h : RD w0 w g s n) (hb : Below w.heap.size w w2) : RD w0 w2 g s n := by
  obtain ⟨A, c, h1, h2, h3⟩ := h.blk
  exact ⟨⟨A, c, (hb.block _ (blk_lt h1)).trans h1, h2, h3⟩, below_then h.b h.b.size hb, h.lo, h.b8⟩
/-- what a call of text tells -/
def TxP (w0 w : World) (g : Nat) (s : RS) (n : Nat) (e : Ending) (w' : World) : Prop :=
  ∃ A c, e = .returned (.slice A (txS s).1.length c) ∧ (txS s).1.length ≤ c ∧ (Kd.int .u8).C w0 A (txS s).1.length (txS s).1 ∧ RD w0 w' g (txS s).2 n ∧ KeepBut w w' g none ∧ B8 (txS s).1
theorem TxP.of {w0 w w' : World} {g : Nat} {s s' : RS} {n : Nat} {x : List Int} {A : Option Addr} {c : Nat} (h : txS s = (x, s')) (hc : x.length ≤ c) (hC : (Kd.int .u8).C w0 A x.length x) (hR : RD w0 w' g s' n) (hk : KeepBut w w' g none) (h8 : B8 x) : TxP w0 w g s n (.returned (.slice A x.length c)) w' := by
  unfold TxP
  rw [h]
  exact ⟨A, c, rfl, hc, hC, hR, hk, h8⟩
theorem txS_bad {s : RS} (h : s.2 ≠ 0) : txS s = ([], s) := by unfold txS; rw [if_pos h]
theorem txS_err {b : List Int} {k : Int} (h : rdT b = .error k) : txS (b, 0) = ([], (b, k)) := by unfold txS; rw [if_neg (by simp), h]
theorem txS_ok {b x r : List Int} (h : rdT b = .ok (x, r)) : txS (b, 0) = (x, (r, 0)) := by unfold txS; rw [if_neg (by simp), h]
set_option maxRecDepth 20000 in
set_option maxHeartbeats 1000000 in
theorem text_bad (w0 w : World) (g : Nat) (s : RS) (n : Nat) (hR : RD w0 w g s n) (h : s.2 ≠ 0) : Calls Try.prog 66 #[.pointer (some ⟨g, 0, none⟩)] w (TxP w0 w g s n) := by
  have HR := Aside0.mk hR
  obtain ⟨A, c, hblk, -, -⟩ := hR.blk
  obtain ⟨⟨p0, p1, p2⟩, -⟩ := cells3 hblk
  have hne : (s.2 != 0) = true := by simpa using h
  have HE := Aside0.mk (txS_bad h)
  clear hR hblk h
  go_enter Try.func66, Try.ntmps66
  go_wp2_with fail
  exact bodyPost_ret (v := .slice none 0 0) (by simp [results, Try.results66, go_sem]) rfl (TxP.of (x := []) HE.out (Nat.le_refl _) (Kd.C_nil _ _) HR.out (KeepBut.refl _ _ _) B8.nil)
def flS (s : RS) (k : Int) : RS := if s.2 = 0 then (s.1, k) else s
set_option maxRecDepth 20000 in
set_option maxHeartbeats 1000000 in
theorem fail_any (w0 w : World) (g : Nat) (s : RS) (n : Nat) (k : Int) (hR : RD w0 w g s n) : Calls Try.prog 48 #[.pointer (some ⟨g, 0, none⟩), .int .i64 k] w fun e w' => e = .returned (.tuple #[]) ∧ RD w0 w' g (flS s k) n ∧ KeepBut w w' g none := by
  have HR := Aside0.mk hR
  obtain ⟨A, c, hblk, hc, hC⟩ := hR.blk
  obtain ⟨⟨p0, p1, p2⟩, q0, q1, q2⟩ := cells3 hblk
  have HB := Aside0.mk hblk
  have HC := Aside0.mk (And.intro hc hC)
  clear hR hblk hc hC
  by_cases h : s.2 = 0
  · have h1 : (s.2 == 0) = true := by simpa using h
    have HE : Aside0 (flS s k = (s.1, k)) := ⟨by unfold flS; rw [if_pos h]⟩
    clear h
    go_enter Try.func48, Try.ntmps48
    go_wp2_with fail
    have hfin : RD w0 (w.setCell ⟨g, 1, none⟩ (.int .i64 k)) g (flS s k) n := by
      rw [HE.out]
      exact ⟨⟨A, c, by simpa using blk_set HB.out 1 (.int .i64 k), HC.out.1, HC.out.2⟩, below_set HR.out.b HR.out.lo, HR.out.lo, HR.out.b8⟩
    exact bodyPost_end (v := .tuple #[]) (by simp [results, Try.results48, go_sem]) rfl ⟨rfl, hfin, KeepBut.set_ (KeepBut.refl _ _ _) 1 _⟩
  · have h1 : (s.2 == 0) = false := by simpa using h
    have HE : Aside0 (flS s k = s) := ⟨by unfold flS; rw [if_neg h]⟩
    clear h
    go_enter Try.func48, Try.ntmps48
    go_wp2_with fail
    have hfin : RD w0 w g (flS s k) n := by rw [HE.out]; exact HR.out
    exact bodyPost_end (v := .tuple #[]) (by simp [results, Try.results48, go_sem]) rfl ⟨rfl, hfin, KeepBut.refl _ _ _⟩
theorem flS_zero (b : List Int) (k : Int) : flS (b, 0) k = (b, k) := by unfold flS; rw [if_pos rfl]
set_option maxRecDepth 20000 in
set_option maxHeartbeats 2000000 in
theorem text_go (w0 w : World) (g : Nat) (b : List Int) (n : Nat) (hR : RD w0 w g (b, 0) n) (hl : b.length ≤ 1099511627776) : Calls Try.prog 66 #[.pointer (some ⟨g, 0, none⟩)] w (TxP w0 w g (b, 0) n) := by
  have HR := Aside0.mk hR
  obtain ⟨A, c, hblk, hc, hC⟩ := hR.blk
  obtain ⟨⟨p0, p1, p2⟩, q0, q1, q2⟩ := cells3 hblk
  have HB := Aside0.mk hblk
  have hC' : (Kd.int .u8).C w0 A b.length b := hC
  have hc' : b.length ≤ c := hc
  have HC := Aside0.mk hC'
  have hb8 : B8 b := hR.b8
  have HB8 := Aside0.mk hb8
  simp only at p0 p1 p2
  clear hR hblk hc hC hb8
  by_cases h1 : b.length < 8
  · have HE : Aside0 (txS (b, 0) = ([], (b, 2))) := ⟨txS_err (by unfold rdT; rw [if_pos h1])⟩
    go_enter Try.func66, Try.ntmps66
    go_wp2_with fail
    refine (fail_any w0 w g (b, 0) n 2 HR.out).mono ?_
    rintro e_ w2 ⟨rfl, hr2, hk2⟩
    rw [flS_zero] at hr2
    have H2 := Aside0.mk (And.intro hr2 hk2)
    clear hr2 hk2
    go_wp2_with fail
    exact bodyPost_ret (v := .slice none 0 0) (by simp [results, Try.results66, go_sem]) rfl (TxP.of (x := []) HE.out (Nat.le_refl _) (Kd.C_nil _ _) H2.out.1 H2.out.2 B8.nil)
  · have HFN := Aside0.mk (fromNumber_any A c b w (Kd.C_below HC.out HR.out.b) hc' (by omega) HB8.out)
    obtain ⟨nn, hnn⟩ : ∃ q, V (b.take 8) = q := ⟨_, rfl⟩
    have hnb : nn < 18446744073709551616 := by
      have := V_lt (HB8.out.take 8)
      rw [List.length_take, Nat.min_eq_left (by omega), hnn] at this
      have h4 : (256 : Nat) ^ 8 = 18446744073709551616 := by decide
      omega
    rw [hnn] at HFN
    by_cases h2 : 2097152 < nn
    · have HE : Aside0 (txS (b, 0) = ([], (b, 3))) := ⟨txS_err (by unfold rdT; rw [if_neg h1, hnn, if_pos h2])⟩
      clear hnn
      go_enter Try.func66, Try.ntmps66
      go_wp2_with fail
      refine HFN.out.mono ?_
      rintro e_ w1 ⟨rfl, rfl⟩
      go_wp2_with fail
      refine (fail_any w0 w1 g (b, 0) n 3 HR.out).mono ?_
      rintro e_ w2 ⟨rfl, hr2, hk2⟩
      rw [flS_zero] at hr2
      have H2 := Aside0.mk (And.intro hr2 hk2)
      clear hr2 hk2
      go_wp2_with fail
      exact bodyPost_ret (v := .slice none 0 0) (by simp [results, Try.results66, go_sem]) rfl (TxP.of (x := []) HE.out (Nat.le_refl _) (Kd.C_nil _ _) H2.out.1 H2.out.2 B8.nil)
    · obtain ⟨i0, hi0, _, hsz0, _⟩ := info_parts info5
      obtain ⟨A2, hcut8, hA2, hlc2⟩ := print_drop_of (P := Try.prog) (Value.int .u8) 0 22 5 .i64 Try.underlying22 hi0 hsz0 A c b (8 : Int) (by omega) (by omega) hc'
      rw [show (8 : Int).toNat = 8 from rfl] at hcut8 hA2 hlc2
      have hC2 := hA2 w0 (Kd.reads_of_C HC.out)
      obtain ⟨d, hd⟩ : ∃ q, b.drop 8 = q := ⟨_, rfl⟩
      obtain ⟨wl, hwl⟩ : ∃ q, (nn + 7) / 8 * 8 = q := ⟨_, rfl⟩
      have hwln : nn ≤ wl := by omega
      have hwlu : wl ≤ 2097160 := by omega
      have hand : Go.bits .andNot .i64 ((nn : Int) + 8 - 1) 7 = (wl : Int) := by
        have := andNot7 (nn + 7) (by omega)
        rw [hwl] at this
        rw [← this]
        congr 1
        omega
      have hdl : d.length ≤ 1099511627776 := by rw [← hd, List.length_drop]; omega
      have hd8 : B8 d := hd ▸ HB8.out.drop 8
      rw [hd] at hcut8 hC2 hlc2
      have HD8 := Aside0.mk hd8
      have HC2 := Aside0.mk hC2
      clear hA2 hC2 hd8
      generalize c - 8 = c2 at *
      by_cases h3 : d.length < wl
      · have HE : Aside0 (txS (b, 0) = ([], (b, 2))) := ⟨txS_err (by unfold rdT; rw [if_neg h1, hnn, if_neg h2, hd, hwl, if_pos h3])⟩
        clear hnn hd hwl
        go_enter Try.func66, Try.ntmps66
        go_wp2_with fail
        refine HFN.out.mono ?_
        rintro e_ w1 ⟨rfl, rfl⟩
        go_wp2_with fail
        refine (fail_any w0 w1 g (b, 0) n 2 HR.out).mono ?_
        rintro e_ w2 ⟨rfl, hr2, hk2⟩
        rw [flS_zero] at hr2
        have H2 := Aside0.mk (And.intro hr2 hk2)
        clear hr2 hk2
        go_wp2_with fail
        exact bodyPost_ret (v := .slice none 0 0) (by simp [results, Try.results66, go_sem]) rfl (TxP.of (x := []) HE.out (Nat.le_refl _) (Kd.C_nil _ _) H2.out.1 H2.out.2 B8.nil)
      · obtain ⟨A3, hmid, hA3, hlc3⟩ := print_mid_of (P := Try.prog) (Value.int .u8) 0 22 5 .u64 .i64 Try.underlying22 hi0 hsz0 A2 c2 d (nn : Int) (wl : Int) (by omega) (by omega) (by omega) hlc2
        obtain ⟨A4, hend, hA4, hlc4⟩ := print_drop_of (P := Try.prog) (Value.int .u8) 0 22 5 .i64 Try.underlying22 hi0 hsz0 A2 c2 d (wl : Int) (by omega) (by omega) hlc2
        obtain ⟨htk, hA5, hlc5⟩ := print_take_of (P := Try.prog) (Value.int .u8) 0 22 5 .u64 Try.underlying22 hi0 hsz0 A2 c2 d (nn : Int) (by omega) (by omega) hlc2
        rw [Int.toNat_natCast] at hend hA4 hlc4 htk hA5 hlc5 hmid hA3 hlc3
        rw [Int.toNat_natCast] at hmid hA3 hlc3
        have hz : ((d.take wl).drop nn).all (· == 0) = false ∨ ((d.take wl).drop nn).all (· == 0) = true := by cases ((d.take wl).drop nn).all (· == 0) <;> simp
        have hE4 : ((d.take wl).drop nn).all (· == 0) = false → txS (b, 0) = ([], (b, 3)) := fun h => txS_err (by unfold rdT; rw [if_neg h1, hnn, if_neg h2, hd, hwl, if_neg h3, if_pos h])
        have hE5 : ((d.take wl).drop nn).all (· == 0) = true → txS (b, 0) = (d.take nn, (d.drop wl, 0)) := fun h => txS_ok (by unfold rdT; rw [if_neg h1, hnn, if_neg h2, hd, hwl, if_neg h3, if_neg (by rw [h]; simp)])
        have HCz := Aside0.mk (Kd.C_of_reads (h1 := fun _ => rfl) (hA3 w0 (HC2.out)))
        have HCr := Aside0.mk (Kd.C_of_reads (h1 := fun _ => rfl) (hA4 w0 (HC2.out)))
        have HCx := Aside0.mk (Kd.C_of_reads (h1 := fun _ => rfl) (hA5 w0 (HC2.out)))
        have HB8x := Aside0.mk (And.intro (HD8.out.take nn) (HD8.out.drop wl))
        obtain ⟨z, hzz⟩ : ∃ q, (d.take wl).drop nn = q := ⟨_, rfl⟩
        obtain ⟨r, hrr⟩ : ∃ q, d.drop wl = q := ⟨_, rfl⟩
        obtain ⟨x, hxx⟩ : ∃ q, d.take nn = q := ⟨_, rfl⟩
        have hzl : z.length ≤ 1099511627776 := by rw [← hzz, List.length_drop, List.length_take]; omega
        rw [hzz] at hmid hlc3 hE4 hE5 HCz
        rw [hrr] at hend hlc4 hE5 HCr HB8x
        rw [hxx] at htk hlc5 hE5 HCx HB8x
        have HE4 := Aside0.mk hE4
        have HE5 := Aside0.mk hE5
        clear hA3 hA4 hA5 hzz hrr hxx hnn hd hwl hz hi0 hsz0 hE4 hE5
        go_enter Try.func66, Try.ntmps66
        go_wp2_with fail
        refine HFN.out.mono ?_
        rintro e_ w1 ⟨rfl, rfl⟩
        clear HFN
        go_wp2_with fail
        go_loop [51] (fun v => ∃ k : Nat, v = .int .i64 (k : Int) ∧ k ≤ z.length ∧ Aside0 (∀ i, i < k → z.getD i 0 = 0)) (fun v => z.length - (intOf v).toNat)
        case atStart => exact ⟨0, rfl, Nat.zero_le _, ⟨fun i hi => absurd hi (Nat.not_lt_zero i)⟩⟩
        case round =>
          obtain ⟨k, rfl, hk, HZ⟩ := hrel
          by_cases hlt : k < z.length
          · obtain ⟨ad, hA, hcell⟩ := Kd.at_int (Kd.C_below HCz.out HR.out.b) (k : Int) (Int.natCast_nonneg _) (by omega)
            subst hA
            rw [Int.toNat_natCast, rd_nat] at hcell
            obtain ⟨q, hq⟩ : ∃ q, z.getD k 0 = q := ⟨_, rfl⟩
            rw [hq] at hcell
            have HQ := Aside0.mk hq
            clear hq
            by_cases h0 : q = 0
            · have hd0 : (q != 0) = false := by simp [h0]
              go_wp2_with fail
              refine ⟨⟨k + 1, by go_num, by omega, ⟨fun i hi => ?_⟩⟩, by simp [intOf]; omega⟩
              rcases Nat.lt_succ_iff_lt_or_eq.1 hi with h | h
              · exact HZ.out i h
              · rw [h, HQ.out, h0]
            · have hd0 : (q != 0) = true := by simpa using h0
              have HE : Aside0 (txS (b, 0) = ([], (b, 3))) := ⟨HE4.out (by
                cases hall : z.all (· == 0) with
                | false => rfl
                | true =>
                  rw [List.all_eq_true] at hall
                  have h9 := hall z[k] (List.getElem_mem hlt)
                  have h8 : z.getD k 0 = z[k] := by rw [List.getD_eq_getElem?_getD, List.getElem?_eq_getElem hlt]; rfl
                  rw [← h8, HQ.out] at h9
                  exact absurd (by simpa using h9) h0)⟩
              go_wp2_with fail
              refine (fail_any w0 w1 g (b, 0) n 3 HR.out).mono ?_
              rintro e_ w2 ⟨rfl, hr2, hk2⟩
              rw [flS_zero] at hr2
              have H2 := Aside0.mk (And.intro hr2 hk2)
              clear hr2 hk2
              go_wp2_with fail
              exact bodyPost_ret (v := .slice none 0 0) (by simp [results, Try.results66, go_sem]) rfl (TxP.of (x := []) HE.out (Nat.le_refl _) (Kd.C_nil _ _) H2.out.1 H2.out.2 B8.nil)
          · have hkk : k = z.length := by omega
            subst hkk
            have HE : Aside0 (txS (b, 0) = (x, (r, 0))) := ⟨HE5.out (by
              rw [List.all_eq_true]
              intro y hy
              obtain ⟨i, hi, rfl⟩ := List.getElem_of_mem hy
              have := HZ.out i hi
              rw [List.getD_eq_getElem?_getD, List.getElem?_eq_getElem hi] at this
              simpa using this)⟩
            go_wp2_with fail
            have hfin : RD w0 (w1.setCell ⟨g, 0, none⟩ (.slice A4 r.length (c2 - wl))) g (r, 0) n := ⟨⟨A4, c2 - wl, by simpa using blk_set HB.out 0 (.slice A4 r.length (c2 - wl)), hlc4, HCr.out⟩, below_set HR.out.b HR.out.lo, HR.out.lo, HB8x.out.2⟩
            exact bodyPost_ret (v := .slice A2 x.length c2) (by simp [results, Try.results66, go_sem]) rfl (TxP.of HE.out hlc5 HCx.out hfin (KeepBut.set_ (KeepBut.refl _ _ _) 0 _) HB8x.out.1)
theorem text_any (w0 w : World) (g : Nat) (s : RS) (n : Nat) (hR : RD w0 w g s n) (hl : s.1.length ≤ 1099511627776) : Calls Try.prog 66 #[.pointer (some ⟨g, 0, none⟩)] w (TxP w0 w g s n) := by
  obtain ⟨b, e⟩ := s
  by_cases h : e = 0
  · subst h; exact text_go w0 w g b n hR hl
  · exact text_bad w0 w g (b, e) n hR h
end Go.Proofs.Ythhajkmeadapgaa.Tree
/- nar's reader: word. Own work. -/
namespace Go.Proofs.Ythhajkmeadapgaa.Tree
set_option linter.unusedVariables false
set_option linter.unusedSimpArgs false
open Go.RowKit Go.Proofs.Ythhajkmeadapgaa.PL Go.Proofs.Ythhajkmeadapgaa.Mn Go.Proofs.YthhajkmeadapgaaW.PrintWords Go.Proofs.YthhajkmeadapgaaW.PrintLast Go.Proofs.YthhajkmeadapgaaW.PrintMore
theorem strOfNums_bytesOf (s : ByteArray) : strOfNums (bytesOf s) = s := bytesOf_inj (bytesOf_strOfNums (bytesOf_B8 s))
theorem str_is {l : List Int} (h : B8 l) (s : ByteArray) : (strOfNums l).toList = s.toList ↔ l = bytesOf s := by
  rw [ba_eq]
  constructor
  · rintro rfl; exact (bytesOf_strOfNums h).symm
  · rintro rfl; exact strOfNums_bytesOf s
def wd1 (s : RS) (w : ByteArray) : RS := if (txS s).2.2 = 0 ∧ (txS s).1 ≠ bytesOf w then ((txS s).2.1, 3) else (txS s).2
def wdS (s : RS) (ss : List ByteArray) : RS := ss.foldl wd1 s
theorem rdT_len {b x r : List Int} (h : rdT b = .ok (x, r)) : x.length + r.length + 8 ≤ b.length := by
  unfold rdT at h
  split at h
  · cases h
  · split at h
    · cases h
    · split at h
      · cases h
      · split at h
        · cases h
        · injection h with h
          simp only [Prod.mk.injEq] at h
          rename_i h1 h2 h3 h4
          rw [← h.1, ← h.2]
          simp only [List.length_take, List.length_drop] at h3 ⊢
          omega
theorem txS_len (s : RS) : (txS s).1.length + (txS s).2.1.length ≤ s.1.length := by
  unfold txS
  split
  · simp
  · split
    · rename_i h; have := rdT_len h; simp only; omega
    · simp
theorem txS_fall {s : RS} (h : (txS s).2.2 = 0) : (txS s).2.1.length + 8 ≤ s.1.length := by
  unfold txS at h ⊢
  by_cases h0 : s.2 ≠ 0
  · rw [if_pos h0] at h; exact absurd h h0
  · rw [if_neg h0] at h ⊢
    split at h
    · rename_i h2; have := rdT_len h2; simp only; omega
    · rename_i k h2
      have hk : k ≠ 0 := by
        unfold rdT at h2
        split at h2
        · injection h2 with h2; omega
        · split at h2
          · injection h2 with h2; omega
          · split at h2
            · injection h2 with h2; omega
            · split at h2
              · injection h2 with h2; omega
              · cases h2
      exact absurd h hk
theorem wd1_len (s : RS) (w : ByteArray) : (wd1 s w).1.length ≤ s.1.length := by
  have := txS_len s
  unfold wd1
  split
  · show (txS s).2.1.length ≤ _; omega
  · omega
theorem wdS_len (ss : List ByteArray) : ∀ s : RS, (wdS s ss).1.length ≤ s.1.length := by
  induction ss with
  | nil => intro s; exact Nat.le_refl _
  | cons w ss ih =>
    intro s
    have h1 := ih (wd1 s w)
    have h2 := wd1_len s w
    show (wdS (wd1 s w) ss).1.length ≤ _
    omega
theorem wdS_drop {ss : List ByteArray} {k : Nat} (h : k < ss.length) (s : RS) : wdS s (ss.drop k) = wdS (wd1 s ss[k]) (ss.drop (k + 1)) := by rw [List.drop_eq_getElem_cons h]; rfl
set_option maxRecDepth 20000 in
set_option maxHeartbeats 2000000 in
theorem word_any (w0 w : World) (g : Nat) (s : RS) (n : Nat) (A : Option Addr) (c : Nat) (ss : List ByteArray) (hR : RD w0 w g s n) (hl : s.1.length ≤ 1099511627776) (hC : ∀ W, KeepBut w W g none → Kd.string.C W A ss.length ss) (hn : ss.length ≤ 1000) :
    Calls Try.prog 46 #[.pointer (some ⟨g, 0, none⟩), .slice A ss.length c] w fun e w' => e = .returned (.tuple #[]) ∧ RD w0 w' g (wdS s ss) n ∧ KeepBut w w' g none := by
  have HR := Aside0.mk hR
  have HC := Aside0.mk hC
  clear hR hC
  go_enter Try.func46, Try.ntmps46
  go_wp2_with fail
  go_loopw [9] (fun v wr => ∃ (k : Nat) (s' : RS), v = .int .i64 (k : Int) ∧ k ≤ ss.length ∧ s'.1.length ≤ 1099511627776 ∧ Aside0 (RD w0 wr g s' n ∧ KeepBut w wr g none ∧ wdS s ss = wdS s' (ss.drop k))) (fun v _ => ss.length - (intOf v).toNat)
  case atStart => exact ⟨0, s, rfl, Nat.zero_le _, hl, ⟨HR.out, KeepBut.refl _ _ _, rfl⟩⟩
  case round =>
    obtain ⟨k, s', rfl, hk, hl', ⟨hr', hk', he'⟩⟩ := hrel
    have HR' := Aside0.mk hr'
    have HK' := Aside0.mk hk'
    have HE' := Aside0.mk he'
    clear hr' hk' he'
    by_cases hlt : k < ss.length
    · obtain ⟨ad, hA, hcs⟩ := Kd.at_string (HC.out wr HK'.out) (k : Int) (by omega) (by omega)
      obtain ⟨x, hx⟩ : ∃ x, rdOf ByteArray.empty ss (k : Int) = x := ⟨_, rfl⟩
      have hxe : ss[k] = x := by rw [← hx, rdOf_nat, List.getD_eq_getElem?_getD, List.getElem?_eq_getElem hlt]; rfl
      rw [hx, Int.toNat_natCast] at hcs
      have HX := Aside0.mk hxe
      subst hA
      clear hx hxe
      go_wp2_with fail
      refine (text_any w0 wr g s' n HR'.out hl').mono ?_
      rintro e_ w2 ⟨A2, c2, rfl, hc2, hC2, hr2, hk2, h8⟩
      have HK2 := Aside0.mk (HK'.out.trans hk2 (.inl rfl))
      have HD2 := Aside0.mk (And.intro hc2 (And.intro hC2 h8))
      have hlen := txS_len s'
      have HW : Aside0 (wd1 s' x = if (txS s').2.2 = 0 ∧ (txS s').1 ≠ bytesOf x then ((txS s').2.1, 3) else (txS s').2) := ⟨rfl⟩
      obtain ⟨l2, hl2⟩ : ∃ q, (txS s').1 = q := ⟨_, rfl⟩
      obtain ⟨s2, hs2⟩ : ∃ q, (txS s').2 = q := ⟨_, rfl⟩
      rw [hl2] at HD2 HW hlen ⊢
      rw [hs2] at HW hr2 hlen
      have HR2 := Aside0.mk hr2
      obtain ⟨Ar, cr, hblk, -, -⟩ := hr2.blk
      obtain ⟨⟨p0, p1, p2⟩, -⟩ := cells3 hblk
      have hle2 : s2.1.length ≤ 1099511627776 := by omega
      clear hblk hc2 hC2 h8 hk2 hr2 hl2 hs2 hlen p0 p2
      by_cases h0 : s2.2 = 0
      · have hcv := Kd.C_string (c := c2) (src := 22) (dst := 9) Try.underlying22 Try.underlying5 Try.underlying9 (Kd.C_below HD2.out.2.1 HR2.out.b)
        have hsi := str_is HD2.out.2.2 x
        rw [h0] at p1
        obtain ⟨y, hy⟩ : ∃ q, strOfNums l2 = q := ⟨_, rfl⟩
        rw [hy] at hcv hsi
        clear hy
        by_cases hxy : l2 = bytesOf x
        · have HW2 : Aside0 (wd1 s' x = s2) := ⟨by rw [HW.out, if_neg (fun h => h.2 hxy)]⟩
          have e1 : (y.toList == x.toList) = true := by rw [hsi.2 hxy]; simp
          have e2 : (y.toList != x.toList) = false := by rw [hsi.2 hxy]; simp
          clear hxy hsi HW
          go_wp2_with fail
          refine ⟨⟨k + 1, s2, by go_num, by omega, hle2, ⟨HR2.out, HK2.out, ?_⟩⟩, by simp [intOf]; omega⟩
          rw [HE'.out, wdS_drop hlt, HX.out, HW2.out]
        · have HW2 : Aside0 (wd1 s' x = flS s2 3) := ⟨by rw [HW.out, if_pos ⟨h0, hxy⟩]; unfold flS; rw [if_pos h0]⟩
          have hxy2 : ¬ y.toList = x.toList := fun h => hxy (hsi.1 h)
          have e1 : (y.toList == x.toList) = false := by simpa using hxy2
          have e2 : (y.toList != x.toList) = true := by simpa using hxy2
          clear hxy hsi HW hxy2
          go_wp2_with fail
          refine (fail_any w0 w2 g s2 n 3 HR2.out).mono ?_
          rintro e_ w3 ⟨rfl, hr3, hk3⟩
          have H3 := Aside0.mk (And.intro hr3 (HK2.out.trans hk3 (.inl rfl)))
          clear hr3 hk3
          go_wp2_with fail
          refine ⟨⟨k + 1, flS s2 3, by go_num, by omega, ?_, ⟨H3.out.1, H3.out.2, ?_⟩⟩, by simp [intOf]; omega⟩
          · unfold flS; split <;> exact hle2
          · rw [HE'.out, wdS_drop hlt, HX.out, HW2.out]
      · have HW2 : Aside0 (wd1 s' x = s2) := ⟨by rw [HW.out, if_neg (fun h => h0 h.1)]⟩
        have e0 : (s2.2 == 0) = false := by simpa using h0
        clear HW
        go_wp2_with fail
        refine ⟨⟨k + 1, s2, by go_num, by omega, hle2, ⟨HR2.out, HK2.out, ?_⟩⟩, by simp [intOf]; omega⟩
        rw [HE'.out, wdS_drop hlt, HX.out, HW2.out]
    · have hkk : k = ss.length := by omega
      subst hkk
      have hE := HE'.out
      rw [List.drop_length] at hE
      have HF : Aside0 (RD w0 wr g (wdS s ss) n) := ⟨by rw [hE]; exact HR'.out⟩
      clear hE
      go_wp2_with fail
      exact bodyPost_end (v := .tuple #[]) (by simp [results, Try.results46, go_sem]) rfl ⟨rfl, HF.out, HK'.out⟩
end Go.Proofs.Ythhajkmeadapgaa.Tree
/- nar's reader: node and entries as plain functions. Own work. -/
namespace Go.Proofs.Ythhajkmeadapgaa.Tree
set_option linter.unusedVariables false
set_option linter.unusedSimpArgs false
open Go.RowKit Go.Proofs.Ythhajkmeadapgaa.PL Go.Proofs.Ythhajkmeadapgaa.Mn Go.Proofs.YthhajkmeadapgaaW.PrintWords Go.Proofs.YthhajkmeadapgaaW.PrintLast Go.Proofs.YthhajkmeadapgaaW.PrintMore
def regS (s : RS) : Bool × List Int × RS :=
  let a : Bool × List Int × RS := if (txS s).2.2 = 0 ∧ (txS s).1 = bytesOf sExec then (true, (txS (wdS (txS s).2 [sEmpty])).1, (txS (wdS (txS s).2 [sEmpty])).2) else (false, (txS s).1, (txS s).2)
  let s3 : RS := if a.2.2.2 = 0 ∧ a.2.1 ≠ bytesOf sCont then (a.2.2.1, 3) else a.2.2
  (a.1, (txS s3).1, wdS (txS s3).2 [sR])
def symS (s : RS) : List Int × RS := ((txS (wdS s [sTarget])).1, wdS (txS (wdS s [sTarget])).2 [sR])
/-- entries, the kids' reader f -/
def entS (f : RS × Nat → S26 × RS × Nat) : Nat → RS × Nat → List ByteArray × List S26 → (List ByteArray × List S26) × RS × Nat
  | 0, s, a => (a, s)
  | L + 1, s, a =>
    if s.1.2 ≠ 0 then (a, s)
    else if (txS s.1).2.2 ≠ 0 ∨ (txS s.1).1 = bytesOf sR then (a, (txS s.1).2, s.2)
    else if (txS s.1).1 ≠ bytesOf sEntry then (a, flS (txS s.1).2 3, s.2)
    else
      let m := txS (wdS (txS s.1).2 [sL, sName])
      let k := f (wdS m.2 [sNode], s.2)
      entS f L (wdS k.2.1 [sR], k.2.2) (a.1 ++ [strOfNums m.1], a.2 ++ [k.1])
def nodeS : Nat → Nat → RS × Nat → S26 × RS × Nat
  | 0, _, s => (⟨0, false, [], [], []⟩, s.1, s.2)
  | F + 1, deep, s =>
    let s1 : RS := if s.1.2 = 0 ∧ (65536 < s.2 + 1 ∨ 64 < deep) then (s.1.1, 5) else s.1
    let k := txS (wdS s1 [sL, sType])
    if k.2.2 ≠ 0 then (⟨0, false, [], [], []⟩, k.2, s.2 + 1)
    else if k.1 = bytesOf sReg then (⟨1, (regS k.2).1, (regS k.2).2.1, [], []⟩, (regS k.2).2.2, s.2 + 1)
    else if k.1 = bytesOf sSym then (⟨3, false, (symS k.2).1, [], []⟩, (symS k.2).2, s.2 + 1)
    else if k.1 = bytesOf sDir then
      let r := entS (nodeS F (deep + 1)) (k.2.1.length + 1) (k.2, s.2 + 1) ([], [])
      (⟨2, false, [], r.1.1, r.1.2⟩, r.2.1, r.2.2)
    else (⟨0, false, [], [], []⟩, flS k.2 3, s.2 + 1)
theorem flS_len (s : RS) (k : Int) : (flS s k).1.length = s.1.length := by unfold flS; split <;> rfl
theorem regS_len (s : RS) : (regS s).2.2.1.length ≤ s.1.length := by
  unfold regS
  have h1 := txS_len s
  have h2 := wdS_len [sEmpty] (txS s).2
  have h3 := txS_len (wdS (txS s).2 [sEmpty])
  simp only
  split
  · split
    · refine Nat.le_trans (wdS_len _ _) (Nat.le_trans (Nat.le_trans (Nat.le_add_left _ _) (txS_len _)) ?_)
      show (txS (wdS (txS s).2 [sEmpty])).2.1.length ≤ _
      omega
    · refine Nat.le_trans (wdS_len _ _) (Nat.le_trans (Nat.le_trans (Nat.le_add_left _ _) (txS_len _)) ?_)
      show (txS (wdS (txS s).2 [sEmpty])).2.1.length ≤ _
      omega
  · split
    · refine Nat.le_trans (wdS_len _ _) (Nat.le_trans (Nat.le_trans (Nat.le_add_left _ _) (txS_len _)) ?_)
      show (txS s).2.1.length ≤ _
      omega
    · refine Nat.le_trans (wdS_len _ _) (Nat.le_trans (Nat.le_trans (Nat.le_add_left _ _) (txS_len _)) ?_)
      show (txS s).2.1.length ≤ _
      omega
theorem symS_len (s : RS) : (symS s).2.1.length ≤ s.1.length := by
  unfold symS
  have h2 := wdS_len [sTarget] s
  have h3 := txS_len (wdS s [sTarget])
  have h4 := wdS_len [sR] (txS (wdS s [sTarget])).2
  simp only
  omega
theorem entS_len (f : RS × Nat → S26 × RS × Nat) (hf : ∀ s, (f s).2.1.1.length ≤ s.1.1.length ∧ (f s).2.2 + (f s).2.1.1.length ≤ s.2 + 1 + s.1.1.length) :
    ∀ (L : Nat) (s : RS × Nat) (a : List ByteArray × List S26), (entS f L s a).2.1.1.length ≤ s.1.1.length ∧ (entS f L s a).2.2 + (entS f L s a).2.1.1.length ≤ s.2 + s.1.1.length := by
  intro L
  induction L with
  | zero => intro s a; exact ⟨Nat.le_refl _, Nat.le_refl _⟩
  | succ L ih =>
    intro s a
    have h1 := txS_len s.1
    unfold entS
    split
    · exact ⟨Nat.le_refl _, Nat.le_refl _⟩
    · split
      · simp only; omega
      · split
        · simp only [flS_len]; omega
        · rename_i h2 h3 h4
          have h0 : (txS s.1).2.2 = 0 := Classical.byContradiction fun h => h3 (.inl h)
          have h5 := txS_fall h0
          have h6 := wdS_len [sL, sName] (txS s.1).2
          have h7 := txS_len (wdS (txS s.1).2 [sL, sName])
          have h8 := wdS_len [sNode] (txS (wdS (txS s.1).2 [sL, sName])).2
          have h9 := hf (wdS (txS (wdS (txS s.1).2 [sL, sName])).2 [sNode], s.2)
          have h10 := wdS_len [sR] (f (wdS (txS (wdS (txS s.1).2 [sL, sName])).2 [sNode], s.2)).2.1
          have h11 := ih (wdS (f (wdS (txS (wdS (txS s.1).2 [sL, sName])).2 [sNode], s.2)).2.1 [sR], (f (wdS (txS (wdS (txS s.1).2 [sL, sName])).2 [sNode], s.2)).2.2) (a.1 ++ [strOfNums (txS (wdS (txS s.1).2 [sL, sName])).1], a.2 ++ [(f (wdS (txS (wdS (txS s.1).2 [sL, sName])).2 [sNode], s.2)).1])
          simp only at h9 h11 ⊢
          omega
theorem nodeS_len : ∀ (F deep : Nat) (s : RS × Nat), (nodeS F deep s).2.1.1.length ≤ s.1.1.length ∧ (nodeS F deep s).2.2 + (nodeS F deep s).2.1.1.length ≤ s.2 + 1 + s.1.1.length := by
  intro F
  induction F with
  | zero => intro deep s; exact ⟨Nat.le_refl _, by show s.2 + s.1.1.length ≤ _; omega⟩
  | succ F ih =>
    intro deep s
    obtain ⟨s1, hs1⟩ : ∃ q : RS, q = (if s.1.2 = 0 ∧ (65536 < s.2 + 1 ∨ 64 < deep) then (s.1.1, 5) else s.1) := ⟨_, rfl⟩
    have h0 : s1.1.length = s.1.1.length := by rw [hs1]; split <;> rfl
    have h1 := wdS_len [sL, sType] s1
    have h2 := txS_len (wdS s1 [sL, sType])
    unfold nodeS
    simp only
    rw [← hs1]
    obtain ⟨k, hk⟩ : ∃ q, txS (wdS s1 [sL, sType]) = q := ⟨_, rfl⟩
    rw [hk] at h2 ⊢
    split
    · simp only; omega
    · split
      · have := regS_len k.2; simp only; omega
      · split
        · have := symS_len k.2; simp only; omega
        · split
          · have := entS_len (nodeS F (deep + 1)) (ih (deep + 1)) (k.2.1.length + 1) (k.2, s.2 + 1) ([], [])
            simp only at this ⊢
            omega
          · simp only [flS_len]; omega
end Go.Proofs.Ythhajkmeadapgaa.Tree
/- nar's reader: entries walked. Own work. -/
namespace Go.Proofs.Ythhajkmeadapgaa.Tree
set_option linter.unusedVariables false
set_option linter.unusedSimpArgs false
open Go.RowKit Go.Proofs.Ythhajkmeadapgaa.PL Go.Proofs.Ythhajkmeadapgaa.Mn Go.Proofs.YthhajkmeadapgaaW.PrintWords Go.Proofs.YthhajkmeadapgaaW.PrintLast Go.Proofs.YthhajkmeadapgaaW.PrintMore
/-- node's contract, for so many floors below -/
def NDC (w0 : World) (g F : Nat) : Prop := ∀ (deep : Nat) (s : RS) (n : Nat) (w : World), deep + F = 66 → RD w0 w g s n → s.1.length ≤ 1073741824 → n + s.1.length ≤ 1099511627776 →
  Calls Try.prog 47 #[.pointer (some ⟨g, 0, none⟩), .int .i64 (deep : Int)] w fun e w' => ∃ cs, e = .returned (.agg cs) ∧ k26.M w' w.heap.size (fun _ => True) (nodeS F deep (s, n)).1 cs.toList ∧ GT F (nodeS F deep (s, n)).1 ∧
    RD w0 w' g (nodeS F deep (s, n)).2.1 (nodeS F deep (s, n)).2.2 ∧ KeepBut w w' g none
/-- what entries' walk keeps -/
structure EN (w0 w wr : World) (g p : Nat) (s : RS) (n : Nat) (ns : List ByteArray) (ks : List S26) (v3 v4 : Value) : Prop where
  rd : RD w0 wr g s n
  bx : wr.heap[p]? = some (.cells #[.int .i64 2, .bool false, .slice none 0 0, v3, v4] 26 (0, 0))
  rn : Kd.string.R 9 wr w.heap.size (fun _ => True) v3 ns
  rk : k26.R 26 wr w.heap.size (fun k => some k ≠ v3.ownBlock) v4 ks
  kp : Kept w wr (fun k => k = g ∨ k = p)
  pg : p ≠ g
  gw : g < w.heap.size
  pw : p < w.heap.size
theorem EN.keep {w0 w wr w2 : World} {g p : Nat} {s s2 : RS} {n n2 : Nat} {ns : List ByteArray} {ks : List S26} {v3 v4 : Value} (h : EN w0 w wr g p s n ns ks v3 v4) (hr : RD w0 w2 g s2 n2) (hk : KeepBut wr w2 g none) : EN w0 w w2 g p s2 n2 ns ks v3 v4 where
  rd := hr
  bx := hk.blk h.bx h.pg (by simp)
  rn := Kd.R_mono (Kd.R_keep (Kd.R_bound h.rn) hk (fun k hk => by have := h.gw; omega)) (fun _ _ => trivial)
  rk := Kd.R_mono (Kd.R_keep (Kd.R_bound h.rk) hk (fun k hk => by have := h.gw; omega)) (fun _ h => h.1)
  kp := h.kp.of_keep hk (.inl (.inl rfl))
  pg := h.pg
  gw := h.gw
  pw := h.pw
theorem EN.below {w0 w wr w2 : World} {g p : Nat} {s : RS} {n : Nat} {ns : List ByteArray} {ks : List S26} {v3 v4 : Value} (h : EN w0 w wr g p s n ns ks v3 v4) (hb : Below wr.heap.size wr w2) : EN w0 w w2 g p s n ns ks v3 v4 :=
  h.keep (h.rd.keep hb) (KeepBut.of_below hb g none)
/-- what the region that lays an entry keeps: the box as it was (b3, b4), the rows that grow (v3, v4), the kid -/
structure AQ (w0 w W : World) (g p : Nat) (s : RS) (n : Nat) (b3 b4 : Value) (lo hi : Nat) (kid : S26) (cs : List Value) (ns : List ByteArray) (ks : List S26) (v3 v4 : Value) : Prop where
  rd : RD w0 W g s n
  bx : W.heap[p]? = some (.cells #[.int .i64 2, .bool false, .slice none 0 0, b3, b4] 26 (0, 0))
  rn : Kd.string.R 9 W w.heap.size (fun _ => True) v3 ns
  rk : k26.R 26 W w.heap.size (fun k => some k ≠ v3.ownBlock) v4 ks
  kp : Kept w W (fun k => k = g ∨ k = p)
  pg : p ≠ g
  gw : g < w.heap.size
  pw : p < w.heap.size
  km : k26.M W lo (fun k => lo ≤ k ∧ k < hi) kid cs
  l3 : ∀ k, v3.ownBlock = some k → k < lo ∨ hi ≤ k
  l4 : ∀ k, v4.ownBlock = some k → k < lo ∨ hi ≤ k
  sz : hi ≤ W.heap.size
  lw : w.heap.size ≤ lo
theorem R_own {α : Type} {d : Kd α} {e : Nat} {W : World} {base : Nat} {ok : Nat → Prop} {v : Value} {xs : List α} (h : d.R e W base ok v xs) (k : Nat) (hk : v.ownBlock = some k) : base ≤ k ∧ k < W.heap.size := by
  obtain ⟨_, inner, ho, _⟩ := h
  exact ⟨own_base ho k hk, own_lt ho k hk⟩
theorem AQ.of {w0 w W : World} {g p : Nat} {s : RS} {n : Nat} {lo hi : Nat} {kid : S26} {cs : List Value} {ns : List ByteArray} {ks : List S26} {v3 v4 : Value} (h : EN w0 w W g p s n ns ks v3 v4) (km : k26.M W lo (fun k => lo ≤ k ∧ k < hi) kid cs) (l3 : ∀ k, v3.ownBlock = some k → k < lo) (l4 : ∀ k, v4.ownBlock = some k → k < lo) (sz : hi ≤ W.heap.size) (lw : w.heap.size ≤ lo) :
    AQ w0 w W g p s n v3 v4 lo hi kid cs ns ks v3 v4 := ⟨h.rd, h.bx, h.rn, h.rk, h.kp, h.pg, h.gw, h.pw, km, fun k hk => .inl (l3 k hk), fun k hk => .inl (l4 k hk), sz, lw⟩
section
variable {w0 w W w1 : World} {g p : Nat} {s : RS} {n : Nat} {b3 b4 : Value} {lo hi : Nat} {kid : S26} {cs : List Value} {ns : List ByteArray} {ks : List S26} {v3 v4 v1 : Value}
theorem AQ.below (h : AQ w0 w W g p s n b3 b4 lo hi kid cs ns ks v3 v4) (hb : Below W.heap.size W w1) : AQ w0 w w1 g p s n b3 b4 lo hi kid cs ns ks v3 v4 :=
  ⟨h.rd.keep hb, (hb.block _ (blk_lt h.bx)).trans h.bx, Kd.R_below h.rn hb, Kd.R_below h.rk hb, h.kp.below hb, h.pg, h.gw, h.pw, Kd.M_below h.km hb, h.l3, h.l4, Nat.le_trans h.sz hb.size, h.lw⟩
theorem RD.grown {row : Option Nat} (h : RD w0 W g s n) (hg : W.grownBy w1 row) (hr : ∀ k, row = some k → w0.heap.size ≤ k ∧ k ≠ g) : RD w0 w1 g s n := by
  obtain ⟨A, c, h1, h2, h3⟩ := h.blk
  exact ⟨⟨A, c, (hg.block _ (blk_lt h1) (fun he => (hr g he.symm).2 rfl)).trans h1, h2, h3⟩, h.b.grown hg h.b.size (fun k hk => (hr k hk).1), h.lo, h.b8⟩
theorem AQ.app3 (h : AQ w0 w W g p s n b3 b4 lo hi kid cs ns ks v3 v4) (h0 : w0.heap.size ≤ w.heap.size) {ns2 : List ByteArray} (hr : Kd.string.R 9 w1 w.heap.size (fun _ => True) v1 ns2) (hg : W.grownBy w1 v3.ownBlock) (hat : v1.ownBlock = v3.ownBlock ∨ ∃ b, v1.ownBlock = some b ∧ W.heap.size ≤ b) :
    AQ w0 w w1 g p s n b3 b4 lo hi kid cs ns2 ks v1 v4 := by
  have o3 := fun k hk => R_own h.rn k hk
  refine ⟨h.rd.grown hg (fun k hk => by have := o3 k hk; have := h.gw; omega), (hg.block _ (blk_lt h.bx) (fun he => by have := o3 p he.symm; have := h.pw; omega)).trans h.bx, hr, ?_, h.kp.of_grown hg (fun k hk => .inr (o3 k hk).1), h.pg, h.gw, h.pw, Kd.M_grown h.km hg (fun k hk he => by have := h.l3 k he.symm; omega), ?_, h.l4, Nat.le_trans h.sz hg.size, h.lw⟩
  · refine Kd.R_mono (Kd.R_grown (Kd.R_bound h.rk) hg (fun k hk => hk.1)) (fun k hk he => ?_)
    rcases hat with e | ⟨b, e, hb⟩
    · exact hk.1 (he.trans e)
    · rw [e] at he
      injection he with he
      have := hk.2.2.1
      omega
  · intro k hk
    rcases hat with e | ⟨b, e, hb⟩
    · exact h.l3 k (e.symm.trans hk)
    · rw [e] at hk
      injection hk with hk
      have := h.sz
      omega
theorem AQ.app4 (h : AQ w0 w W g p s n b3 b4 lo hi kid cs ns ks v3 v4) (h0 : w0.heap.size ≤ w.heap.size) {ks2 : List S26} (hr : k26.R 26 w1 w.heap.size (fun k => some k ≠ v3.ownBlock) v1 ks2) (hg : W.grownBy w1 v4.ownBlock) (hat : v1.ownBlock = v4.ownBlock ∨ ∃ b, v1.ownBlock = some b ∧ W.heap.size ≤ b) :
    AQ w0 w w1 g p s n b3 b4 lo hi kid cs ns ks2 v3 v1 := by
  have o4 := fun k hk => R_own h.rk k hk
  have hne : v4.ownBlock ≠ v3.ownBlock ∨ v4.ownBlock = none := by
    cases he : v4.ownBlock with
    | none => exact .inr rfl
    | some k => exact .inl (h.rk.1 k he)
  refine ⟨h.rd.grown hg (fun k hk => by have := o4 k hk; have := h.gw; omega), (hg.block _ (blk_lt h.bx) (fun he => by have := o4 p he.symm; have := h.pw; omega)).trans h.bx, ?_, hr, h.kp.of_grown hg (fun k hk => .inr (o4 k hk).1), h.pg, h.gw, h.pw, Kd.M_grown h.km hg (fun k hk he => by have := h.l4 k he.symm; omega), h.l3, ?_, Nat.le_trans h.sz hg.size, h.lw⟩
  · refine Kd.R_mono (Kd.R_grown (Kd.R_tight rfl h.rn) hg (fun k hk he => ?_)) (fun _ _ => trivial)
    rcases hne with hne | hne
    · exact hne (he.symm.trans hk)
    · rw [hne] at he; cases he
  · intro k hk
    rcases hat with e | ⟨b, e, hb⟩
    · exact h.l4 k (e.symm.trans hk)
    · rw [e] at hk
      injection hk with hk
      have := h.sz
      omega
theorem AQ.shut (h : AQ w0 w W g p s n b3 b4 lo hi kid cs ns ks v3 v4) (h0 : w0.heap.size ≤ p) : EN w0 w ((W.setCell ⟨p, 3, none⟩ v3).setCell ⟨p, 4, none⟩ v4) g p s n ns ks v3 v4 := by
  have hb1 := blk_set h.bx 3 v3
  have hb2 := blk_set hb1 4 v4
  have e : ∀ k, k ≠ p → ((W.setCell ⟨p, 3, none⟩ v3).setCell ⟨p, 4, none⟩ v4).heap[k]? = W.heap[k]? := fun k hk => (Below.heap_setCell _ ⟨p, 4, none⟩ v4 k hk).trans (Below.heap_setCell _ ⟨p, 3, none⟩ v3 k hk)
  obtain ⟨A, c, r1, r2, r3⟩ := h.rd.blk
  refine ⟨⟨⟨A, c, (e g (fun he => h.pg he.symm)).trans r1, r2, r3⟩, below_set (below_set h.rd.b h0) h0, h.rd.lo, h.rd.b8⟩, by simpa using hb2, Kd.R_mono (Kd.R_step (Kd.R_bound h.rn) (fun k hk _ => e k (by have := h.pw; omega))) (fun _ _ => trivial), Kd.R_mono (Kd.R_step (Kd.R_bound h.rk) (fun k hk _ => e k (by have := h.pw; omega))) (fun _ hk => hk.1), (h.kp.setCell (p := ⟨p, 3, none⟩) (.inl (.inr rfl)) v3).setCell (p := ⟨p, 4, none⟩) (.inl (.inr rfl)) v4, h.pg, h.gw, h.pw⟩
end
theorem str_lit {l : List Int} (h : B8 l) (s : ByteArray) (L : List UInt8) (hL : s.data.toList = L) : (strOfNums l).toList = L ↔ l = bytesOf s := by
  rw [← hL, ← toList_data]; exact str_is h s
def restLen (w : World) (g : Nat) : Nat := match w.cell? ⟨g, 0, none⟩ with | some (.slice _ n _) => n | _ => 0
theorem RD.rest {w0 w : World} {g : Nat} {s : RS} {n : Nat} (h : RD w0 w g s n) : restLen w g = s.1.length := by
  obtain ⟨A, c, h1, -, -⟩ := h.blk
  unfold restLen
  rw [(blk_cell h1 0).trans rfl]
  rfl
/-- a text laid in a new row of one: strings -/
theorem lit_C {w : World} {ss : List ByteArray} {g n : Nat} (hn : n ≤ 1000) (hl : ss.length = n) (hg : w.heap.size ≠ g) (t : Nat) : ∀ W, KeepBut (w.alloc (.cells (ss.map Value.string).toArray t)) W g none → Kd.string.C W (some ⟨w.heap.size, 0, none⟩) ss.length ss :=
  fun W hW => strs_C (hW.blk (heap_alloc_new w _) hg (by simp)) (by omega)
end Go.Proofs.Ythhajkmeadapgaa.Tree
