/- lex: code, by the plain functions. Own work. -/
import Derived.Test.YtgenfggjonhmgaaLxE
import Derived.Test.YtgenfggjonhmgaaLxF
namespace Go.Proofs.Ytgenfggjonhmgaa.Lx
set_option linter.unusedVariables false
set_option linter.unusedSimpArgs false
open Go.RowKit Go.Proofs.Ytgenfggjonhmgaa.Ml Go.Proofs.Ytgenfggjonhmgaa.PL Go.Proofs.YtgenfggjonhmgaaW.PrintWords Go.Proofs.YtgenfggjonhmgaaW.PrintLast Go.Proofs.YtgenfggjonhmgaaW.PrintMore
variable {w0 W : World} {g : Nat} {s : ByteArray}
/-- the lexer in memory, as a plain state -/
def LXs (w0 W : World) (g : Nat) (s : ByteArray) (x : LS) : Prop := ∃ v2 v3, LXv w0 W g s (x.i : Int) v2 x.l v3 x.m x.wr
def LXp (w0 : World) (g : Nat) (s : ByteArray) (x : LS) (e : Ending) (w' : World) : Prop := e = .returned (.tuple #[]) ∧ LXs w0 w' g s x
structure Okl (s : ByteArray) (x : LS) : Prop where
  sz : s.size ≤ 16384
  le : x.i ≤ s.size
  ll : x.l.length ≤ 2 * x.i
  m0 : 0 < x.m.length
  ml : x.m.length ≤ x.i + 1
  br : ∀ q ∈ x.m, 0 ≤ q.f2 ∧ q.f2 ≤ x.i
  at_ : ∀ q ∈ x.m, 0 ≤ q.f1
  bot : (x.m.getD 0 z42).f0 = false
theorem top_mem (m : List S42) (h : 0 < m.length) : topM m ∈ m := by
  unfold topM
  rw [List.getD_eq_getElem?_getD, List.getElem?_eq_getElem (by omega)]
  exact List.getElem_mem _
theorem name_s {x : LS} (h : LXs w0 W g s x) (hO : Okl s x) : Calls Try.prog 23 #[.pointer (some ⟨g, 0, none⟩)] W (LXp w0 g s (nameS s x)) := by
  obtain ⟨v2, v3, h⟩ := h
  have hl := bytesOf_length s
  have h1 := runTo_le isNam (bytesOf s) x.i (by rw [hl]; exact hO.le)
  rw [hl] at h1
  refine (name_any x.i h hO.le (by have := hO.sz; omega) (by have := hO.ll; have := hO.le; have := hO.sz; omega) _ rfl h1 _ rfl).mono ?_
  rintro e w' ⟨rfl, v, hv⟩
  exact ⟨rfl, v, v3, hv⟩
theorem isDig_ne {c : Int} (h : isDig c = true) : c ≠ 0 := by rintro rfl; revert h; decide
theorem number_s {x : LS} (h : LXs w0 W g s x) (hO : Okl s x) (hd : isDig ((bytesOf s).getD x.i 0) = true) (hlt : x.i < s.size) : Calls Try.prog 25 #[.pointer (some ⟨g, 0, none⟩)] W (LXp w0 g s (numberS s x)) := by
  obtain ⟨v2, v3, h⟩ := h
  have hl := bytesOf_length s
  have h0 := runTo_next (p := isDig) (l := bytesOf s) (k := x.i) (by omega) hd
  have h1 := runTo_le isDig (bytesOf s) (x.i + 1) (by omega)
  rw [hl, ← h0] at h1
  refine (number_any x.i h hO.le (by have := hO.sz; omega) (by have := hO.ll; have := hO.le; have := hO.sz; omega) _ rfl ⟨by omega, by omega⟩ _ rfl _ rfl _ rfl _ rfl).mono ?_
  rintro e w' ⟨rfl, hv⟩
  refine ⟨rfl, ?_⟩
  unfold numberS
  by_cases hb : numBad s x.i
  · rw [if_pos hb]
    unfold numBad numT at hb
    rw [if_pos hb] at hv
    exact ⟨v2, v3, hv⟩
  · rw [if_neg hb]
    unfold numBad numT at hb
    rw [if_neg hb] at hv
    obtain ⟨v, hv⟩ := hv
    exact ⟨v, v3, hv⟩
theorem opens_s {x : LS} (h : LXs w0 W g s x) (hO : Okl s x) : Calls Try.prog 26 #[.pointer (some ⟨g, 0, none⟩)] W (LXp w0 g s (opensS x)) := by
  obtain ⟨v2, v3, h⟩ := h
  refine (opens_any x.i h (by have := hO.sz; have := hO.le; omega) hO.m0 (by have := hO.ml; have := hO.le; have := hO.sz; omega) (by have := hO.ll; have := hO.le; have := hO.sz; omega) _ rfl).mono ?_
  rintro e w' ⟨rfl, hv⟩
  refine ⟨rfl, ?_⟩
  unfold opensS
  by_cases hb : 60 ≤ textsOf x.m
  · rw [if_pos hb]
    rw [if_pos hb] at hv
    exact ⟨v2, v3, hv⟩
  · rw [if_neg hb]
    rw [if_neg hb] at hv
    obtain ⟨v, v', hv⟩ := hv
    exact ⟨v, v', hv⟩
theorem sign_s {x : LS} (h : LXs w0 W g s x) (hO : Okl s x) : Calls Try.prog 27 #[.pointer (some ⟨g, 0, none⟩)] W (LXp w0 g s (signS s x)) := by
  obtain ⟨v2, v3, h⟩ := h
  have hb := hO.br _ (top_mem x.m hO.m0)
  refine (sign_any x.i h hO.le (by have := hO.sz; omega) hO.m0 (by have := hO.ml; have := hO.le; have := hO.sz; omega) (by have := hO.ll; have := hO.le; have := hO.sz; omega) _ rfl _ rfl ⟨hb.1, by have := hO.le; have := hO.sz; have := hb.2; omega⟩).mono ?_
  rintro e w' ⟨rfl, hv⟩
  refine ⟨rfl, ?_⟩
  unfold signS
  cases hsg : signAt (s.extract x.i s.size).data.toList with
  | none =>
    rw [hsg] at hv
    exact ⟨v2, v3, hv⟩
  | some t =>
    rw [hsg] at hv
    obtain ⟨v, v', hv⟩ := hv
    exact ⟨v, v', hv⟩
theorem index_take (l : List UInt8) : (Lib.indexByte l 10 = -1 ∧ ((l.map fun b => (b.toNat : Int)).takeWhile (fun c => !isEnd c)).length = l.length) ∨ Lib.indexByte l 10 = (((l.map fun b => (b.toNat : Int)).takeWhile (fun c => !isEnd c)).length : Int) := by
  induction l with
  | nil => exact .inl ⟨rfl, rfl⟩
  | cons b l ih =>
    by_cases hb : b = 10
    · subst hb
      refine .inr ?_
      rfl
    · have h1 : (b == 10) = false := by simpa using hb
      have h2 : isEnd (b.toNat : Int) = false := by
        unfold isEnd
        have : b.toNat ≠ 10 := fun h => hb (by rw [← UInt8.toNat_inj]; exact h)
        simp; omega
      rw [List.map_cons, List.takeWhile_cons, h2, Lib.indexByte, h1]
      simp only [Bool.not_false, if_true, List.length_cons, Bool.false_eq_true, if_false]
      rcases ih with ⟨h, h3⟩ | h
      · rw [h, if_pos (by decide), h3]; exact .inl ⟨rfl, rfl⟩
      · have h0 : ¬ ((Lib.indexByte l 10 == -1) = true) := by rw [h, beq_iff_eq]; omega
        rw [if_neg h0, h]; exact .inr (by omega)
theorem to_end (s : ByteArray) (k : Nat) : (s.extract k s.size).data.toList = s.data.toList.drop k := by
  rw [Lib.extract_data, List.take_of_length_le]
  rw [List.length_drop, data_length]
  exact Nat.le_refl _
theorem remark_index (s : ByteArray) (k : Nat) (hk : k ≤ s.size) :
    (Lib.indexByte (s.extract k s.size).data.toList 10 = -1 ∧ runTo (fun c => !isEnd c) (bytesOf s) k = s.size) ∨
    (∃ n : Nat, Lib.indexByte (s.extract k s.size).data.toList 10 = (n : Int) ∧ runTo (fun c => !isEnd c) (bytesOf s) k = k + n) := by
  rw [to_end]
  have h := index_take (s.data.toList.drop k)
  have hl := data_length s
  unfold runTo bytesOf
  rw [← List.map_drop]
  rcases h with ⟨h1, h2⟩ | h
  · rw [List.length_drop] at h2
    exact .inl ⟨h1, by omega⟩
  · exact .inr ⟨_, h, rfl⟩
theorem ib_at (a : ByteArray) (c : Int) (r : Int) (h : Lib.indexByte a.data.toList c.toNat.toUInt8 = r) (w : World) : Calls Try.prog 21 #[.string a, .int .u8 c] w fun e w' => e = .returned (.int .i64 r) ∧ w' = w := h ▸ Try.strings_IndexByte a c w
theorem digit_at (c : Int) (b : Bool) (h : isDig c = b) (w : World) : Calls Try.prog 24 #[.int .u8 c] w fun e w' => e = .returned (.bool b) ∧ w' = w := h ▸ digit_any c w
theorem LXs.step {k n : Nat} {c : Int} {v2 v3 : Value} {l : List S28} {m : List S42} {wn : Int} (h : LXv w0 W g s (k : Int) v2 l v3 m wn) (hn : c = ((k + n : Nat) : Int)) : LXs w0 (W.setCell ⟨g, 1, none⟩ (.int .i64 c)) g s ⟨k + n, l, m, wn⟩ := ⟨v2, v3, by subst hn; exact h.at_ _⟩
set_option maxHeartbeats 4000000 in
theorem code_s {x : LS} (h : LXs w0 W g s x) (hO : Okl s x) (hlt : x.i < s.size) : Calls Try.prog 16 #[.pointer (some ⟨g, 0, none⟩)] W (LXp w0 g s (codeS s x)) := by
  obtain ⟨k, l, m, wn⟩ := x
  obtain ⟨v2, v3, hv⟩ := h
  simp only at hv hlt
  have hs := hO.sz
  have hbd := bytes_getD s k hlt
  have HO := Aside0.mk hO
  have HV := Aside0.mk hv
  have hc0 : W.cell? ⟨g, 0, none⟩ = some (.string s) := (blk_cell hv.b 0).trans rfl
  have hc1 : W.cell? ⟨g, 1, none⟩ = some (.int .i64 (k : Int)) := (blk_cell hv.b 1).trans rfl
  have HBD := Aside0.mk hbd
  have g1 : (k : Int) < (s.size : Int) := by omega
  have g2 : (0 : Int) ≤ (k : Int) := by omega
  clear hv hO hbd
  go_enter Try.func16, Try.ntmps16
  go_wp2_with fail
  go_quiet (fail)
  have HV2 := Aside0.mk (HV.out.drawn ⟨⟨nq, rfl⟩⟩)
  generalize W.drewN nq = w2 at *
  clear HV hc0 hc1
  have hc0 : w2.cell? ⟨g, 0, none⟩ = some (.string s) := (blk_cell HV2.out.b 0).trans rfl
  have hc1 : w2.cell? ⟨g, 1, none⟩ = some (.int .i64 (k : Int)) := (blk_cell HV2.out.b 1).trans rfl
  have hf1 := blk_frozen HV2.out.b 1
  have hcd : (bytesOf s).getD k 0 = (s[k].toNat : Int) := HBD.out
  obtain ⟨y, hy⟩ : ∃ y : LS, codeS s ⟨k, l, m, wn⟩ = y := ⟨_, rfl⟩
  have HEY := Aside0.mk hy
  unfold codeS at hy
  simp only [hcd] at hy
  clear HBD
  generalize (s[k].toNat : Int) = c at *
  by_cases hbl : c = 32 ∨ c = 9 ∨ c = 10 ∨ c = 13
  · rw [if_pos hbl] at hy
    have HY := Aside0.mk hy
    have g3 : (k : Int) ≤ 1000000 := by omega
    clear hy hcd
    rcases hbl with rfl | rfl | rfl | rfl
    all_goals
      go_wp2_with fail
      first | go_end0 | ((try simp only [Exit.inBlock, Exit.then]); refine bodyPost_ret (results_none rfl _ _ _) rfl ?_)
      refine ⟨rfl, ?_⟩
      rw [HEY.out, ← HY.out]
      exact LXs.step HV2.out (n := 1) (by omega)
  · rw [if_neg hbl] at hy
    have b1 : (c == 32) = false := by simp; omega
    have b2 : (c == 9) = false := by simp; omega
    have b3 : (c == 10) = false := by simp; omega
    have b4 : (c == 13) = false := by simp; omega
    have HBL := Aside0.mk hbl
    clear hbl
    by_cases h35 : c = 35
    · subst h35
      rw [if_pos rfl] at hy
      have g3 : (k : Int) ≤ 1000000 := by omega
      have g4 : (s.size : Int) ≤ 1000000 := by omega
      have HY := Aside0.mk hy
      clear hy hcd
      rcases remark_index s k (by omega) with ⟨hi, hr⟩ | ⟨n, hi, hr⟩
      · have HI := Aside0.mk hi
        have HR := Aside0.mk hr
        clear hi hr
        go_wp2_with (go_at_call 21; refine (ib_at _ _ _ HI.out _).mono ?_; rintro e w3 ⟨rfl, rfl⟩)
        first | go_end0 | ((try simp only [Exit.inBlock, Exit.then]); refine bodyPost_ret (results_none rfl _ _ _) rfl ?_)
        refine ⟨rfl, ?_⟩
        rw [HEY.out, ← HY.out, HR.out]
        have E := LXs.step HV2.out (n := s.size - k) (c := (k : Int) + ((s.size : Int) - (k : Int))) (by omega)
        rw [show k + (s.size - k) = s.size by omega] at E
        exact E
      · have hle := runTo_le (fun c => !isEnd c) (bytesOf s) k (by rw [bytesOf_length]; omega)
        rw [bytesOf_length, hr] at hle
        have g5 : (n : Int) ≤ 1000000 := by omega
        have HI := Aside0.mk hi
        have HR := Aside0.mk hr
        clear hi hr
        go_wp2_with (go_at_call 21; refine (ib_at _ _ _ HI.out _).mono ?_; rintro e w3 ⟨rfl, rfl⟩)
        first | go_end0 | ((try simp only [Exit.inBlock, Exit.then]); refine bodyPost_ret (results_none rfl _ _ _) rfl ?_)
        refine ⟨rfl, ?_⟩
        rw [HEY.out, ← HY.out, HR.out]
        exact LXs.step HV2.out (by omega)
    · rw [if_neg h35] at hy
      have b5 : (c == 35) = false := by simpa using h35
      clear h35
      have HVS : LXs w0 w2 g s ⟨k, l, m, wn⟩ := ⟨v2, v3, HV2.out⟩
      have HX := Aside0.mk HVS
      clear HVS
      by_cases hle : isLet c = true
      · rw [if_pos hle] at hy
        have HY := Aside0.mk hy
        have HC := Aside0.mk hle
        clear hy hcd hle
        go_wp2_with (first | (go_at_call 22; refine (letter_at _ _ HC.out _).mono ?_; rintro e w3 ⟨rfl, rfl⟩) | (go_at_call 23; refine (name_s HX.out HO.out).mono ?_; rintro e w3 ⟨rfl, HE⟩))
        first | go_end0 | ((try simp only [Exit.inBlock, Exit.then]); refine bodyPost_ret (results_none rfl _ _ _) rfl ?_)
        refine ⟨rfl, ?_⟩
        rw [HEY.out, ← HY.out]
        exact HE
      · rw [if_neg hle] at hy
        have hle' : isLet c = false := by simpa using hle
        have HC := Aside0.mk hle'
        clear hle hle'
        by_cases hdi : isDig c = true
        · rw [if_pos hdi] at hy
          have HY := Aside0.mk hy
          have HD := Aside0.mk hdi
          have hdg : isDig ((bytesOf s).getD k 0) = true := by rw [hcd]; exact hdi
          have HN := Aside0.mk (number_s HX.out HO.out hdg hlt)
          clear hy hcd hdi hdg
          go_wp2_with (first | (go_at_call 22; refine (letter_at _ _ HC.out _).mono ?_; rintro e w3 ⟨rfl, rfl⟩) | (go_at_call 24; refine (digit_at _ _ HD.out _).mono ?_; rintro e w3 ⟨rfl, rfl⟩) | (go_at_call 25; refine HN.out.mono ?_; rintro e w3 ⟨rfl, HE⟩))
          first | go_end0 | ((try simp only [Exit.inBlock, Exit.then]); refine bodyPost_ret (results_none rfl _ _ _) rfl ?_)
          refine ⟨rfl, ?_⟩
          rw [HEY.out, ← HY.out]
          exact HE
        · rw [if_neg hdi] at hy
          have hdi' : isDig c = false := by simpa using hdi
          have HD := Aside0.mk hdi'
          clear hdi hdi'
          by_cases h34 : c = 34
          · rw [if_pos h34] at hy
            subst h34
            have HY := Aside0.mk hy
            clear hy hcd
            go_wp2_with (first | (go_at_call 22; refine (letter_at _ _ HC.out _).mono ?_; rintro e w3 ⟨rfl, rfl⟩) | (go_at_call 24; refine (digit_at _ _ HD.out _).mono ?_; rintro e w3 ⟨rfl, rfl⟩) | (go_at_call 26; refine (opens_s HX.out HO.out).mono ?_; rintro e w3 ⟨rfl, HE⟩))
            first | go_end0 | ((try simp only [Exit.inBlock, Exit.then]); refine bodyPost_ret (results_none rfl _ _ _) rfl ?_)
            refine ⟨rfl, ?_⟩
            rw [HEY.out, ← HY.out]
            exact HE
          · rw [if_neg h34] at hy
            have b6 : (c == 34) = false := by simpa using h34
            have HY := Aside0.mk hy
            clear hy hcd h34
            go_wp2_with (first | (go_at_call 22; refine (letter_at _ _ HC.out _).mono ?_; rintro e w3 ⟨rfl, rfl⟩) | (go_at_call 24; refine (digit_at _ _ HD.out _).mono ?_; rintro e w3 ⟨rfl, rfl⟩) | (go_at_call 27; refine (sign_s HX.out HO.out).mono ?_; rintro e w3 ⟨rfl, HE⟩))
            first | go_end0 | ((try simp only [Exit.inBlock, Exit.then]); refine bodyPost_ret (results_none rfl _ _ _) rfl ?_)
            refine ⟨rfl, ?_⟩
            rw [HEY.out, ← HY.out]
            exact HE
end Go.Proofs.Ytgenfggjonhmgaa.Lx
