/- lex: a text. Own work. -/
import Derived.Test.YtgenfggjonhmgaaLxH
import Derived.Deep.LoopGhost
import Derived.StillTailTactics
namespace Go.Proofs.Ytgenfggjonhmgaa.Lx
set_option linter.unusedVariables false
set_option linter.unusedSimpArgs false
open Go.RowKit Go.Proofs.Ytgenfggjonhmgaa.Ml Go.Proofs.Ytgenfggjonhmgaa.PL Go.Proofs.YtgenfggjonhmgaaW.PrintWords Go.Proofs.YtgenfggjonhmgaaW.PrintLast Go.Proofs.YtgenfggjonhmgaaW.PrintMore
variable {w0 W : World} {g B : Nat} {s : ByteArray} {i at0 : Int} {v2 v3 vb : Value} {l : List S28} {m : List S42} {wn : Int} {acc : List Int}
theorem TXv.cells (h : TXv w0 W g B s i v2 l v3 m wn at0 vb acc) : W.cell? ⟨B, 0, none⟩ = some (.pointer (some ⟨g, 0, none⟩)) ∧ W.cell? ⟨g, 0, none⟩ = some (.string s) ∧ W.cell? ⟨g, 1, none⟩ = some (.int .i64 i) ∧ W.cell? ⟨B + 2, 0, none⟩ = some vb ∧ W.frozen? ⟨g, 1, none⟩ = false ∧ W.frozen? ⟨B + 2, 0, none⟩ = false :=
  ⟨(blk_cell h.b1 0).trans rfl, (blk_cell h.lx.b 0).trans rfl, (blk_cell h.lx.b 1).trans rfl, (blk_cell h.b3 0).trans rfl, blk_frozen h.lx.b 1, blk_frozen h.b3 0⟩
/-- how the text's loop stands -/
structure TxR (T : TE) (w0 wr : World) (g B : Nat) (s : ByteArray) (v2 : Value) (l : List S28) (v3 : Value) (m : List S42) (wn : Int) (k0 : Nat) (n k : Nat) (vb : Value) (acc : List Int) : Prop where
  te : textE (bytesOf s) n k acc = T
  le : k ≤ s.size
  al : acc.length ≤ k
  fu : s.size - k < n
  tx : TXv w0 wr g B s (k : Int) v2 l v3 m wn (k0 : Int) vb acc
theorem hole_prefix (s : ByteArray) (k : Nat) (hk : k < s.size) : Lib.hasPrefix (s.extract k s.size).data.toList [36, 123] = (decide ((bytesOf s).getD k 0 = 36) && decide ((bytesOf s).getD (k + 1) 0 = 123)) := by
  rw [to_end]
  unfold bytesOf Lib.hasPrefix
  have hl := data_length s
  have e1 : ((s.data.toList.map fun b => (b.toNat : Int)).getD k 0) = ((s.data.toList.map fun b => (b.toNat : Int)).drop k).getD 0 0 := by simp [List.getD_eq_getElem?_getD]
  have e2 : ((s.data.toList.map fun b => (b.toNat : Int)).getD (k + 1) 0) = ((s.data.toList.map fun b => (b.toNat : Int)).drop k).getD 1 0 := by simp [List.getD_eq_getElem?_getD]
  rw [e1, e2, ← List.map_drop]
  generalize s.data.toList.drop k = q
  have h8 : ∀ (a b : UInt8), (a == b) = decide ((b.toNat : Int) = (a.toNat : Int)) := by
    intro a b
    rw [Bool.eq_iff_iff]
    simp only [beq_iff_eq, decide_eq_true_eq]
    constructor
    · rintro rfl; rfl
    · intro h; rw [← UInt8.toNat_inj]; omega
  rcases q with _ | ⟨a, _ | ⟨b, q⟩⟩
  · rfl
  · have := h8 36 a
    simp [List.isPrefixOf]
  · simp only [List.isPrefixOf, List.map_cons, List.getD_cons_zero, List.getD_cons_succ, Bool.and_true, h8]
    rfl
def escT : ByteArray := ⟨#[110, 116, 114, 34, 92, 36]⟩
theorem esc_none (c : Int) (h0 : 0 ≤ c) (h1 : c < 256) (h : escB c = none) : Lib.indexByte escT.data.toList c.toNat.toUInt8 = -1 := by
  have key : ∀ n : Fin 256, escB (n.val : Int) = none → Lib.indexByte escT.data.toList n.val.toUInt8 = -1 := by decide +kernel
  have := key ⟨c.toNat, by omega⟩ (by show escB ((c.toNat : Nat) : Int) = none; rw [Int.toNat_of_nonneg h0]; exact h)
  exact this
theorem esc_some (c d : Int) (h : escB c = some d) : ∃ x : Nat, x < 6 ∧ Lib.indexByte escT.data.toList c.toNat.toUInt8 = (x : Int) ∧ ∀ w, (Instr.index 9 (.string ⟨#[10, 9, 13, 34, 92, 36]⟩) (.int .i64 (x : Int))).run Try.prog w = .ok (.int .u8 d) w := by
  unfold escB at h
  split at h
  · next hc => subst hc; cases h; exact ⟨0, by decide, by decide, fun w => by kernel_rfl⟩
  · split at h
    · next hc => subst hc; cases h; exact ⟨1, by decide, by decide, fun w => by kernel_rfl⟩
    · split at h
      · next hc => subst hc; cases h; exact ⟨2, by decide, by decide, fun w => by kernel_rfl⟩
      · split at h
        · next hc => subst hc; cases h; exact ⟨3, by decide, by decide, fun w => by kernel_rfl⟩
        · split at h
          · next hc => subst hc; cases h; exact ⟨4, by decide, by decide, fun w => by kernel_rfl⟩
          · split at h
            · next hc => subst hc; cases h; exact ⟨5, by decide, by decide, fun w => by kernel_rfl⟩
            · cases h
def outT (l : List S28) (m : List S42) (wn : Int) (k0 : Nat) : TE → LS
  | .shut i a => ⟨i + 1, pieceL l a k0 ++ [⟨8, ⟨#[]⟩, (i : Int)⟩], m.take (m.length - 1), wn⟩
  | .hole i a => ⟨i + 2, pieceL l a k0 ++ [⟨7, ⟨#[]⟩, (i : Int)⟩], m ++ [⟨false, 0, 0⟩], wn⟩
  | .bad i => ⟨i, l, m, (i : Int)⟩
  | .ended i => ⟨i, l, m, wn⟩
theorem textS_out (s : ByteArray) (k0 : Nat) (l : List S28) (m : List S42) (wn : Int) : textS s ⟨k0, l, m, wn⟩ = outT l m wn k0 (textE (bytesOf s) (s.size - k0 + 1) k0 []) := by
  unfold textS
  simp only
  cases textE (bytesOf s) (s.size - k0 + 1) k0 [] <;> rfl
theorem LXs.mk' (h : LXv w0 W g s i v2 l v3 m wn) {x : LS} (h1 : i = (x.i : Int)) (h2 : l = x.l) (h3 : m = x.m) (h4 : wn = x.wr) : LXs w0 W g s x := ⟨v2, v3, by subst h1 h2 h3 h4; exact h⟩
theorem TXv.start (h : LXv w0 W g s i v2 l v3 m wn) : TXv w0 (((W.alloc (.cells #[.pointer (some ⟨g, 0, none⟩)] 40)).alloc (.cells #[.int .i64 i] 3)).alloc (.cells #[.slice none 0 0] 31)) g W.heap.size s i v2 l v3 m wn i (.slice none 0 0) [] := by
  refine ⟨h.below (below_alloc (below_alloc (below_alloc (Below.refl _ _) _) _) _), blk_alloc (blk_alloc (blk_new _ _) _) _, ?_, ?_, Kd.R_nil _ _ _ _ _, h.B.size⟩
  · have := blk_new (W.alloc (.cells #[.pointer (some ⟨g, 0, none⟩)] 40)) (.cells #[.int .i64 i] 3)
    exact blk_alloc (by simpa using this) _
  · have := blk_new ((W.alloc (.cells #[.pointer (some ⟨g, 0, none⟩)] 40)).alloc (.cells #[.int .i64 i] 3)) (.cells #[.slice none 0 0] 31)
    simpa using this
set_option maxRecDepth 100000 in
set_option maxHeartbeats 4000000 in
theorem text_s {x : LS} (h : LXs w0 W g s x) (hO : Okl s x) (hlt : x.i < s.size) (hm2 : 2 ≤ x.m.length) : Calls Try.prog 15 #[.pointer (some ⟨g, 0, none⟩)] W (LXp w0 g s (textS s x)) := by
  obtain ⟨k0, l, m, wn⟩ := x
  obtain ⟨v2, v3, hv⟩ := h
  simp only at hv hlt hm2
  have hs := hO.sz
  have hll : l.length ≤ 2 * k0 := hO.ll
  have hmm : m.length ≤ k0 + 1 := hO.ml
  have HV := Aside0.mk hv
  have hc1 : W.cell? ⟨g, 1, none⟩ = some (.int .i64 (k0 : Int)) := (blk_cell hv.b 1).trans rfl
  have hgl := blk_lt hv.b
  obtain ⟨T, hT⟩ : ∃ T, textE (bytesOf s) (s.size - k0 + 1) k0 [] = T := ⟨_, rfl⟩
  have HT := Aside0.mk hT
  rw [textS_out, hT]
  clear hv hT hO
  go_enter Try.func15, Try.ntmps15
  go_wp2_with fail
  have HX0 := Aside0.mk (TXv.start HV.out)
  generalize (((W.alloc (.cells #[.pointer (some ⟨g, 0, none⟩)] 40)).alloc (.cells #[.int .i64 (k0 : Int)] 3)).alloc (.cells #[.slice none 0 0] 31)) = w1 at *
  rw [show W.heap.size + 1 + 1 = W.heap.size + 2 from rfl]
  generalize W.heap.size = B at *
  clear hc1 hgl HV
  go_loopg [5] (s.size - k0 + 1) (fun n u5 wq => ∃ k vb acc, TxR T w0 wq g B s v2 l v3 m wn k0 n k vb acc)
  case atStart => exact ⟨k0, _, [], HT.out, by omega, Nat.zero_le _, by omega, HX0.out⟩
  case round =>
    clear HX0 HT
    obtain ⟨k, vb, acc, hR⟩ := hrel
    have HX := Aside0.mk hR.tx
    have HTE := Aside0.mk hR.te
    have hkl := hR.le
    have hal := hR.al
    have hfu := hR.fu
    clear hR
    obtain ⟨n, rfl⟩ : ∃ n, gk = n + 1 := ⟨gk - 1, by omega⟩
    obtain ⟨c0, c1, c2, c3, f1, f2⟩ := HX.out.cells
    by_cases hlk : k < s.size
    · have d1 : decide ((k : Int) < (s.size : Int)) = true := decide_eq_true (by omega)
      have g1 : (k : Int) < (s.size : Int) := by omega
      have g2 : (0 : Int) ≤ (k : Int) := by omega
      go_wp2_with fail
      go_quiet (fail)
      have HN := Aside0.mk (HX.out.drawn ⟨⟨nq, rfl⟩⟩)
      generalize wr.drewN nq = w2 at *
      clear c0 c1 c2 c3 f1 f2 HX
      have HX := HN
      clear HN
      obtain ⟨c0, c1, c2, c3, f1, f2⟩ := HX.out.cells
      go_wp2_with fail
      go_quiet (fail)
      have HN := Aside0.mk (HX.out.drawn ⟨⟨nq, rfl⟩⟩)
      generalize w2.drewN nq = w3 at *
      clear c0 c1 c2 c3 f1 f2 HX
      have HX := HN
      clear HN
      obtain ⟨c0, c1, c2, c3, f1, f2⟩ := HX.out.cells
      have hte := HTE.out
      have hbd := bytes_getD s k hlk
      have hhp := hole_prefix s k hlk
      rw [textE, if_neg (by rw [bytesOf_length]; omega)] at hte
      rw [hbd] at hte hhp
      clear hbd HTE
      generalize (s[k].toNat : Int) = c at *
      by_cases h34 : c = 34
      · subst h34
        rw [if_pos rfl] at hte
        have HTE := Aside0.mk hte
        clear hte hhp
        obtain ⟨gm, cm, rfl⟩ := HX.out.lx.modes (by omega)
        obtain ⟨l4, hl4⟩ : ∃ l4, pieceL l acc k0 = l4 := ⟨_, rfl⟩
        have hl4n : l4.length ≤ l.length + 1 := by rw [← hl4]; unfold pieceL; split <;> simp
        have HL4 := Aside0.mk hl4
        have HPC := Aside0.mk (piece_any k0 HX.out (by omega) (by omega) _ hl4)
        clear hl4
        go_upto_region 10 with (go_at_call 19; refine HPC.out.mono ?_; rintro e w4 ⟨rfl, v4, h4, b4⟩; have HX4 := Aside0.mk h4; have HB4 := Aside0.mk b4; have e0 : w4.cell? ⟨B, 0, none⟩ = some (.pointer (some ⟨g, 0, none⟩)) := (blk_cell b4 0).trans rfl; have e1 : w4.cell? ⟨g, 1, none⟩ = some (.int .i64 (k : Int)) := (blk_cell h4.b 1).trans rfl; clear h4 b4)
        clear HX HPC c0 c1 c2 c3 f1 f2
        go_still_tail 5, (by kernel_rfl)
        change wpList _ _ _ _ _ w4.drew
        have HX5 := Aside0.mk HX4.out.drew
        have HB5 := Aside0.mk (blk_drew HB4.out)
        clear HX4 HB4 e0 e1
        generalize w4.drew = w5 at *
        obtain ⟨l6, hl6⟩ : ∃ q, l4 ++ [(⟨8, ⟨#[]⟩, (k : Int)⟩ : S28)] = q := ⟨_, rfl⟩
        have HL6 := Aside0.mk hl6
        have HP6 := Aside0.mk (put_kept HX5.out 8 ⟨#[]⟩ (k : Int) (by omega))
        unfold putP at HP6
        rw [hl6] at HP6
        clear hl6
        go_upto_region 11 with (go_at_call 17; refine HP6.out.mono ?_; rintro e w6 ⟨rfl, v6, h6, k6⟩; have HX6 := Aside0.mk h6; have HB6 := Aside0.mk (kept_b1 HX5.out HB5.out k6); have e0 : w6.cell? ⟨B, 0, none⟩ = some (.pointer (some ⟨g, 0, none⟩)) := (blk_cell HB6.out 0).trans rfl; have e1 : w6.cell? ⟨g, 1, none⟩ = some (.int .i64 (k : Int)) := (blk_cell h6.b 1).trans rfl; have f1 := blk_frozen h6.b 1; clear h6 k6)
        have HX7 := Aside0.mk (HX6.out.at_ ((k : Int) + 1))
        have HB7 := Aside0.mk (blk_far HB6.out (blk_ne HB6.out HX6.out.b (by decide)) (p := ⟨g, 1, none⟩) (.int .i64 ((k : Int) + 1)))
        go_upto_region 12 with fail
        clear HX5 HB5 HP6 HX6 HB6 e0 e1 f1
        generalize (w6.setCell ⟨g, 1, none⟩ (.int .i64 ((k : Int) + 1))) = w7 at *
        have e0 : w7.cell? ⟨B, 0, none⟩ = some (.pointer (some ⟨g, 0, none⟩)) := (blk_cell HB7.out 0).trans rfl
        have e3 : w7.cell? ⟨g, 3, none⟩ = some (.slice (some ⟨gm, 0, none⟩) m.length cm) := (blk_cell HX7.out.b 3).trans rfl
        have f3 := blk_frozen HX7.out.b 3
        have hmc : m.length ≤ cm := by
          obtain ⟨_, inner, hown, _⟩ := id HX7.out.r3
          exact own_le hown
        have s1 : IntKind.i64.wrap ((m.length : Int) - 1) = ((m.length - 1 : Nat) : Int) := by rw [show ((m.length : Int) - 1) = ((m.length - 1 : Nat) : Int) by omega]; rw [IntKind.wrap_i64]; omega
        have g3 : 0 ≤ ((m.length - 1 : Nat) : Int) := by omega
        have g4 : ((m.length - 1 : Nat) : Int) ≤ (cm : Int) := by omega
        go_still_tail 14, (by kernel_rfl)
        have HX8 := Aside0.mk HX7.out.drew
        change wpList _ _ _ _ _ w7.drew
        go_wp2_with fail
        first | go_end0 | ((try simp only [Exit.inBlock, Exit.then]); refine bodyPost_ret (results_none rfl _ _ _) rfl ?_)
        refine ⟨rfl, ?_⟩
        rw [← HTE.out]
        have E : LXv w0 (w7.drew.setCell ⟨g, 3, none⟩ (.slice (some ⟨gm, 0, none⟩) (m.length - 1) cm)) g s ((k + 1 : Nat) : Int) v6 (pieceL l acc k0 ++ [⟨8, ⟨#[]⟩, (k : Int)⟩]) (.slice (some ⟨gm, 0, none⟩) (m.length - 1) cm) (m.take (m.length - 1)) wn := by
          rw [HL4.out, HL6.out, show ((k + 1 : Nat) : Int) = (k : Int) + 1 by omega]
          exact HX8.out.pop3 gm cm rfl (m.length - 1) (by omega)
        exact ⟨v6, _, E⟩
      · have b1 : (c == 34) = false := by simpa using h34
        rw [if_neg h34] at hte
        clear h34
        by_cases hho : c = 36 ∧ (bytesOf s).getD (k + 1) 0 = 123
        · rw [if_pos hho] at hte
          have HTE := Aside0.mk hte
          have HHP := Aside0.mk (hp_at (s.extract k s.size) ⟨#[36, 123]⟩ true (by show Lib.hasPrefix _ [36, 123] = true; rw [hhp, decide_eq_true hho.1, decide_eq_true hho.2]; rfl))
          clear hte hhp hho
          go_upto_region 13 with fail
          go_quiet ((go_at_call 20; exact Calls.quiet_of_same (HHP.out _)))
          have HN := Aside0.mk (HX.out.drawn ⟨⟨nq, rfl⟩⟩)
          generalize w3.drewN nq = w4 at *
          clear c0 c1 c2 c3 f1 f2 HX
          have HX := HN
          clear HN HHP
          obtain ⟨gm, cm, rfl⟩ := HX.out.lx.modes (by omega)
          obtain ⟨l4, hl4⟩ : ∃ l4, pieceL l acc k0 = l4 := ⟨_, rfl⟩
          have hl4n : l4.length ≤ l.length + 1 := by rw [← hl4]; unfold pieceL; split <;> simp
          have HL4 := Aside0.mk hl4
          have HPC := Aside0.mk (piece_any k0 HX.out (by omega) (by omega) _ hl4)
          clear hl4
          go_upto_region 15 with (go_at_call 19; refine HPC.out.mono ?_; rintro e w5 ⟨rfl, v4, h4, b4⟩; have HX4 := Aside0.mk h4; have HB4 := Aside0.mk b4; have e0 : w5.cell? ⟨B, 0, none⟩ = some (.pointer (some ⟨g, 0, none⟩)) := (blk_cell b4 0).trans rfl; have e1 : w5.cell? ⟨g, 1, none⟩ = some (.int .i64 (k : Int)) := (blk_cell h4.b 1).trans rfl; clear h4 b4)
          clear HX HPC
          go_still_tail 5, (by kernel_rfl)
          change wpList _ _ _ _ _ w5.drew
          have HX5 := Aside0.mk HX4.out.drew
          have HB5 := Aside0.mk (blk_drew HB4.out)
          clear HX4 HB4 e0 e1
          generalize w5.drew = w5d at *
          obtain ⟨l6, hl6⟩ : ∃ q, l4 ++ [(⟨7, ⟨#[]⟩, (k : Int)⟩ : S28)] = q := ⟨_, rfl⟩
          have HL6 := Aside0.mk hl6
          have HP6 := Aside0.mk (put_kept HX5.out 7 ⟨#[]⟩ (k : Int) (by omega))
          unfold putP at HP6
          rw [hl6] at HP6
          clear hl6
          go_upto_region 16 with (go_at_call 17; refine HP6.out.mono ?_; rintro e w6 ⟨rfl, v6, h6, k6⟩; have HX6 := Aside0.mk h6; have HB6 := Aside0.mk (kept_b1 HX5.out HB5.out k6); have e0 : w6.cell? ⟨B, 0, none⟩ = some (.pointer (some ⟨g, 0, none⟩)) := (blk_cell HB6.out 0).trans rfl; have e1 : w6.cell? ⟨g, 1, none⟩ = some (.int .i64 (k : Int)) := (blk_cell h6.b 1).trans rfl; have f1 := blk_frozen h6.b 1; clear h6 k6)
          have HX7 := Aside0.mk (HX6.out.at_ ((k : Int) + 2))
          have HB7 := Aside0.mk (blk_far HB6.out (blk_ne HB6.out HX6.out.b (by decide)) (p := ⟨g, 1, none⟩) (.int .i64 ((k : Int) + 2)))
          go_upto_region 17 with fail
          clear HX5 HB5 HP6 HX6 HB6 e0 e1 f1
          generalize (w6.setCell ⟨g, 1, none⟩ (.int .i64 ((k : Int) + 2))) = w7 at *
          have e0 : w7.cell? ⟨B, 0, none⟩ = some (.pointer (some ⟨g, 0, none⟩)) := (blk_cell HB7.out 0).trans rfl
          have e3 : w7.cell? ⟨g, 3, none⟩ = some (.slice (some ⟨gm, 0, none⟩) m.length cm) := (blk_cell HX7.out.b 3).trans rfl
          have f3 := blk_frozen HX7.out.b 3
          have e0a : ∀ o : Obj, (w7.alloc o).cell? ⟨B, 0, none⟩ = some (.pointer (some ⟨g, 0, none⟩)) := fun o => (blk_cell (blk_alloc HB7.out o) 0).trans rfl
          have e3a : ∀ o : Obj, (w7.alloc o).cell? ⟨g, 3, none⟩ = some (.slice (some ⟨gm, 0, none⟩) m.length cm) := fun o => (blk_cell (blk_alloc HX7.out.b o) 3).trans rfl
          have HE1 := Aside0.mk (show (k : Int) + 2 = (((outT l m wn k0 (.hole k acc)).i : Nat) : Int) by show (k : Int) + 2 = ((k + 2 : Nat) : Int); omega)
          have HE2 := Aside0.mk (show l6 = (outT l m wn k0 (.hole k acc)).l by show l6 = pieceL l acc k0 ++ [⟨7, ⟨#[]⟩, (k : Int)⟩]; rw [HL4.out, HL6.out])
          go_region_law (refine Kd.R_append_step k42 (w0 := w0) w0.heap.size (by rfl) (.tmp 104) (.tmp 106) 43 42 (.agg #[.bool false, .int .i64 0, .int .i64 0]) 24 (by rfl) Try.underlying43 info42 rfl (by decide) (by decide) (.slice (some ⟨gm, 0, none⟩) m.length cm) m ⟨false, 0, 0⟩ [.bool false, .int .i64 0, .int .i64 0] (fun _ => True) (fun _ => False) (by rfl) (by rfl) (k42_mkM _ w0.heap.size (fun _ => False) ⟨false, 0, 0⟩) (fun _ hk => hk.elim) (fun _ _ => trivial) HX7.out.drew.r3 HX7.out.drew.B HX7.out.drew.B.size (by omega) ?_; intro v1 w8 hr1 hb1 hg1 hat1; have HP0 := HX7.out.drew.push3 hr1 hb1 hg1 hat1; have b8 := blk_grown (blk_drew HB7.out) hg1 (Kd.R_ne HX7.out.drew.r3 (blk_drew HB7.out) (by decide)); obtain ⟨A8, c8, rfl⟩ := Kd.R_slice hr1; have HP := Aside0.mk HP0; clear HP0; rw [List.length_append, List.length_singleton] at HP; have hc8 : w8.cell? ⟨g, 3, none⟩ = some (.slice (some ⟨gm, 0, none⟩) m.length cm) := (blk_cell (blk_grown HX7.out.drew.b hg1 (Kd.R_ne HX7.out.drew.r3 HX7.out.drew.b (by decide))) 3).trans rfl; have hc80 : w8.cell? ⟨B, 0, none⟩ = some (.pointer (some ⟨g, 0, none⟩)) := (blk_cell b8 0).trans rfl; have hf8 := blk_frozen (blk_grown HX7.out.drew.b hg1 (Kd.R_ne HX7.out.drew.r3 HX7.out.drew.b (by decide))) 3; clear hr1 hb1 hg1 hat1 b8)
          all_goals
            go_wp2_with fail
            first | go_end0 | ((try simp only [Exit.inBlock, Exit.then]); refine bodyPost_ret (results_none rfl _ _ _) rfl ?_)
            refine ⟨rfl, ?_⟩
            rw [← HTE.out]
            exact LXs.mk' HP.out (HE1.out) HE2.out rfl rfl
        · rw [if_neg hho] at hte
          have HHP := Aside0.mk (hp_at (s.extract k s.size) ⟨#[36, 123]⟩ false (by
            show Lib.hasPrefix _ [36, 123] = false
            rw [hhp, Bool.eq_false_iff]
            intro h
            rw [Bool.and_eq_true, decide_eq_true_eq, decide_eq_true_eq] at h
            exact hho h))
          clear hhp hho
          by_cases h92 : c = 92
          · subst h92
            rw [if_pos rfl] at hte
            go_upto_region 13 with fail
            go_quiet ((go_at_call 20; exact Calls.quiet_of_same (HHP.out _)))
            have HN := Aside0.mk (HX.out.drawn ⟨⟨nq, rfl⟩⟩)
            generalize w3.drewN nq = w4 at *
            clear c0 c1 c2 c3 f1 f2 HX
            have HX := HN
            clear HN HHP
            obtain ⟨c0, c1, c2, c3, f1, f2⟩ := HX.out.cells
            have HTE := Aside0.mk hte
            clear hte
            by_cases hk1 : k + 1 < s.size
            · have q1 : IntKind.i64.wrap ((k : Int) + 1) = (k : Int) + 1 := IntWalk.i64_in _ (by omega)
              have q2 : 0 ≤ (k : Int) + 1 := by omega
              have q3 : ((k : Int) + 1).toNat = k + 1 := by omega
              have q4 : (k : Int) + 1 < (s.size : Int) := by omega
              have q5 : decide ((k : Int) + 1 < (s.size : Int)) = true := decide_eq_true q4
              go_wp2_with fail
              go_quiet (fail)
              have HN := Aside0.mk (HX.out.drawn ⟨⟨nq, rfl⟩⟩)
              generalize w4.drewN nq = w5 at *
              clear c0 c1 c2 c3 f1 f2 HX
              have HX := HN
              clear HN
              obtain ⟨c0, c1, c2, c3, f1, f2⟩ := HX.out.cells
              have hbd := bytes_getD s (k + 1) hk1
              have hu0 : 0 ≤ (s[k + 1].toNat : Int) := by omega
              have hu1 : (s[k + 1].toNat : Int) < 256 := by have := s[k + 1].toNat_lt; omega
              have hte := HTE.out
              rw [hbd] at hte
              clear HTE hbd
              cases hes : escB (s[k + 1].toNat : Int) with
              | none =>
                rw [hes] at hte
                have HTE := Aside0.mk hte
                have HIB := Aside0.mk (ib_at escT (s[k + 1].toNat : Int) _ (esc_none _ hu0 hu1 hes))
                clear hte hes
                go_wp2_with fail
                go_quiet ((go_at_call 21; exact Calls.quiet_of_same (HIB.out _)))
                have HN := Aside0.mk (HX.out.drawn ⟨⟨nq, rfl⟩⟩)
                generalize w5.drewN nq = w6 at *
                clear c0 c1 c2 c3 f1 f2 HX
                have HX := HN
                clear HN
                obtain ⟨c0, c1, c2, c3, f1, f2⟩ := HX.out.cells
                go_upto_region 23 with fail
                go_still_tail 5, (by kernel_rfl)
                change wpList _ _ _ _ _ w6.drew
                have HX7 := Aside0.mk HX.out.lx.drew
                clear HX c0 c1 c2 c3 f1 f2
                generalize w6.drew = w7 at *
                go_wp2_with (go_at_call 18; refine (fails_any HX7.out _).mono ?_; rintro e w8 ⟨rfl, HH8⟩)
                first | go_end0 | ((try simp only [Exit.inBlock, Exit.then]); refine bodyPost_ret (results_none rfl _ _ _) rfl ?_)
                refine ⟨rfl, ?_⟩
                rw [← HTE.out]
                exact LXs.mk' HH8 rfl rfl rfl rfl
              | some d =>
                rw [hes] at hte
                have HTE := Aside0.mk hte
                obtain ⟨x, hx6, hxi, hix⟩ := esc_some _ d hes
                have HIB := Aside0.mk (ib_at escT (s[k + 1].toNat : Int) _ hxi)
                have hx0 : decide ((x : Int) < 0) = false := decide_eq_false (by omega)
                clear hte hes hxi
                go_wp2_with fail
                go_quiet ((go_at_call 21; exact Calls.quiet_of_same (HIB.out _)))
                have HN := Aside0.mk (HX.out.drawn ⟨⟨nq, rfl⟩⟩)
                generalize w5.drewN nq = w6 at *
                clear c0 c1 c2 c3 f1 f2 HX
                have HX := HN
                clear HN
                obtain ⟨c0, c1, c2, c3, f1, f2⟩ := HX.out.cells
                obtain ⟨Ab, cb, rfl⟩ := Kd.R_slice HX.out.r
                have c3a : ∀ o : Obj, (w6.alloc o).cell? ⟨B + 2, 0, none⟩ = some (.slice Ab acc.length cb) := fun o => (blk_cell (blk_alloc HX.out.b3 o) 0).trans rfl
                go_wp2_with fail
                go_region_law (refine Kd.R_append_step (Kd.int .u8) (w0 := w0) w0.heap.size (by rfl) (.tmp 143) (.tmp 146) 31 5 (.int .u8 0) 1 (by rfl) Try.underlying31 info5 rfl (by decide) (by decide) (.slice Ab acc.length cb) acc d [.int .u8 d] (fun _ => True) (fun _ => False) (by rfl) (by rfl) rfl (fun _ hk => hk.elim) (fun _ _ => trivial) HX.out.drew.r HX.out.drew.lx.B HX.out.drew.lx.B.size (by omega) ?_; intro v1 w7 hr1 hb1 hg1 hat1; have HP0 := HX.out.drew.push hr1 hb1 hg1; obtain ⟨A7, c7, rfl⟩ := Kd.R_slice hr1; have HP := Aside0.mk HP0; clear HP0; rw [List.length_append, List.length_singleton] at HP; have p7 : w7.cell? ⟨B + 2, 0, none⟩ = some (.slice Ab acc.length cb) := (blk_cell (blk_grown HX.out.drew.b3 hg1 (Kd.R_ne HX.out.drew.r HX.out.drew.b3 (by decide))) 0).trans rfl; have q7 := blk_frozen (blk_grown HX.out.drew.b3 hg1 (Kd.R_ne HX.out.drew.r HX.out.drew.b3 (by decide))) 0; clear hr1 hb1 hg1 hat1)
                clear c3a
                all_goals
                  generalize (w7.setCell ⟨B + 2, 0, none⟩ (.slice A7 (acc.length + 1) c7)) = w8 at *
                  clear c0 c1 c2 c3 f1 f2 HX p7 q7
                  obtain ⟨c0, c1, c2, c3, f1, f2⟩ := HP.out.cells
                  go_wp2_with fail
                  go_roundg n
                  case measure => omega
                  case rel => exact ⟨k + 2, _, acc ++ [d], HTE.out, by omega, by rw [List.length_append, List.length_singleton]; omega, by omega, by rw [show ((k + 2 : Nat) : Int) = (k : Int) + 2 by omega]; exact HP.out.at_ _⟩
            · have q5 : decide ((k : Int) + 1 < (s.size : Int)) = false := decide_eq_false (by omega)
              have hes : escB ((bytesOf s).getD (k + 1) 0) = none := by
                rw [List.getD_eq_getElem?_getD, List.getElem?_eq_none (by rw [bytesOf_length]; omega)]; rfl
              have hte := HTE.out
              rw [hes] at hte
              clear HTE hes
              have HTE := Aside0.mk hte
              clear hte
              go_wp2_with fail
              go_quiet (fail)
              have HN := Aside0.mk (HX.out.drawn ⟨⟨nq, rfl⟩⟩)
              generalize w4.drewN nq = w5 at *
              clear c0 c1 c2 c3 f1 f2 HX
              have HX := HN
              clear HN
              obtain ⟨c0, c1, c2, c3, f1, f2⟩ := HX.out.cells
              go_upto_region 23 with fail
              go_still_tail 5, (by kernel_rfl)
              change wpList _ _ _ _ _ w5.drew
              have HX7 := Aside0.mk HX.out.lx.drew
              clear HX c0 c1 c2 c3 f1 f2
              generalize w5.drew = w7 at *
              go_wp2_with (go_at_call 18; refine (fails_any HX7.out _).mono ?_; rintro e w8 ⟨rfl, HH8⟩)
              first | go_end0 | ((try simp only [Exit.inBlock, Exit.then]); refine bodyPost_ret (results_none rfl _ _ _) rfl ?_)
              refine ⟨rfl, ?_⟩
              rw [← HTE.out]
              exact LXs.mk' HH8 rfl rfl rfl rfl
          · rw [if_neg h92] at hte
            have b2 : (c == 92) = false := by simpa using h92
            have HTE := Aside0.mk hte
            clear hte h92
            go_upto_region 13 with fail
            go_quiet ((go_at_call 20; exact Calls.quiet_of_same (HHP.out _)))
            have HN := Aside0.mk (HX.out.drawn ⟨⟨nq, rfl⟩⟩)
            generalize w3.drewN nq = w4 at *
            clear c0 c1 c2 c3 f1 f2 HX
            have HX := HN
            clear HN HHP
            obtain ⟨c0, c1, c2, c3, f1, f2⟩ := HX.out.cells
            obtain ⟨Ab, cb, rfl⟩ := Kd.R_slice HX.out.r
            go_upto_region 7 with ((with_reducible refine gate_builtin (b := .append) (xs := #[.tmp 31, .tmp 33]) rfl ?_); at_builtin; refine Kd.R_append (Kd.int .u8) (w0 := w0) w0.heap.size rfl (.tmp 31) (.tmp 33) 31 5 (.int .u8 0) 1 rfl Try.underlying31 info5 rfl (by decide) (by decide) (.slice Ab acc.length cb) acc c [.int .u8 c] (fun _ => True) (fun _ => False) (by rfl) (by rfl) rfl (fun _ hk => hk.elim) (fun _ _ => trivial) HX.out.r HX.out.lx.B HX.out.lx.B.size (by omega) ?_; intro v1 w7 hr1 hb1 hg1 hat1; have HP0 := HX.out.push hr1 hb1 hg1; obtain ⟨A7, c7, rfl⟩ := Kd.R_slice hr1; have HP := Aside0.mk HP0; clear HP0; rw [List.length_append, List.length_singleton] at HP; have p7 : w7.cell? ⟨B + 2, 0, none⟩ = some (.slice Ab acc.length cb) := (blk_cell (blk_grown HX.out.b3 hg1 (Kd.R_ne HX.out.r HX.out.b3 (by decide))) 0).trans rfl; have q7 := blk_frozen (blk_grown HX.out.b3 hg1 (Kd.R_ne HX.out.r HX.out.b3 (by decide))) 0; clear hr1 hb1 hg1 hat1)
            all_goals
              generalize (w7.setCell ⟨B + 2, 0, none⟩ (.slice A7 (acc.length + 1) c7)) = w8 at *
              clear c0 c1 c2 c3 f1 f2 HX p7 q7
              obtain ⟨c0, c1, c2, c3, f1, f2⟩ := HP.out.cells
              go_wp2_with fail
              go_roundg n
              case measure => omega
              case rel => exact ⟨k + 1, _, acc ++ [c], HTE.out, by omega, by rw [List.length_append, List.length_singleton]; omega, by omega, by rw [show ((k + 1 : Nat) : Int) = (k : Int) + 1 by omega]; exact HP.out.at_ _⟩
    · have d1 : decide ((k : Int) < (s.size : Int)) = false := decide_eq_false (by omega)
      have hte := HTE.out
      rw [textE, if_pos (by rw [bytesOf_length]; omega)] at hte
      have HTE := Aside0.mk hte
      clear hte
      go_wp2_with fail
      go_quiet (fail)
      have HN := Aside0.mk (HX.out.drawn ⟨⟨nq, rfl⟩⟩)
      generalize wr.drewN nq = w2 at *
      clear c0 c1 c2 c3 f1 f2 HX
      have HX := HN
      clear HN
      go_wp2_with fail
      first | go_end0 | ((try simp only [Exit.inBlock, Exit.then]); refine bodyPost_ret (results_none rfl _ _ _) rfl ?_)
      refine ⟨rfl, ?_⟩
      rw [← HTE.out]
      exact LXs.mk' HX.out.lx rfl rfl rfl rfl
end Go.Proofs.Ytgenfggjonhmgaa.Lx
