/- chapter 22: LexTexts' walk. Own work. -/
import Derived.Test.YtgenfggjonhmgaaLxN
import Derived.Test.YtgenfggjonhmgaaLxTx
import Derived.StillTailTactics
namespace Go.Proofs.Ytgenfggjonhmgaa.Lt
set_option linter.unusedVariables false
set_option linter.unusedSimpArgs false
open Go.RowKit Go.Proofs.Ytgenfggjonhmgaa.Ml Go.Proofs.Ytgenfggjonhmgaa.Mm Go.Proofs.Ytgenfggjonhmgaa.Lx Go.Proofs.Ytgenfggjonhmgaa.PL Go.Proofs.YtgenfggjonhmgaaW.PrintWords Go.Proofs.YtgenfggjonhmgaaW.PrintLast Go.Proofs.YtgenfggjonhmgaaW.PrintMore
theorem tok_cells {w : World} {base gx n c : Nat} {ok : Nat → Prop} {l : List S28} (h : k28.R 28 w base ok (.slice (some ⟨gx, 0, none⟩) n c) l) (k : Nat) (x : S28) (hx : l[k]? = some x) :
    w.cell? ⟨gx, k * 3, none⟩ = some (.int .i64 x.f0) ∧ w.cell? ⟨gx, k * 3 + 1, none⟩ = some (.string x.f1) := by
  have hk : k < l.length := by
    rcases Nat.lt_or_ge k l.length with h' | h'
    · exact h'
    · rw [List.getElem?_eq_none h'] at hx; cases hx
  obtain ⟨A, c', e⟩ := Kd.R_slice h
  injection e with e1 e2 e3
  subst e1 e2
  obtain ⟨ad, he, h0, h1, h2⟩ := at_T28 (Kd.R_reads' h).2.2 (k : Int) (by omega) (by omega)
  injection he with he
  subst he
  have hr : rd_T28 l (k : Int) = x := by unfold rd_T28; rw [Int.toNat_natCast, List.getD_eq_getElem?_getD, hx]; rfl
  rw [hr] at h0 h1
  simp only [add_plain, Int.toNat_natCast] at h0 h1
  exact ⟨h0, h1⟩
theorem row_form {w : World} {base : Nat} {ok : Nat → Prop} {v : Value} {l : List S28} (h : k28.R 28 w base ok v l) (hn : 0 < l.length) : ∃ gx c, v = .slice (some ⟨gx, 0, none⟩) l.length c := by
  obtain ⟨_, inner, hown, _⟩ := h
  obtain ⟨gm, c, e, _⟩ := hown.form hn
  exact ⟨gm, c, e⟩
theorem row_form' {w : World} {base : Nat} {ok : Nat → Prop} {v : Value} {l : List S28} (h : k28.R 28 w base ok v l) (n : Nat) (hn : l.length = n) (h0 : 0 < n) : ∃ gx c, v = .slice (some ⟨gx, 0, none⟩) n c ∧ n ≤ c := by
  subst hn
  obtain ⟨gx, c, rfl⟩ := row_form h h0
  obtain ⟨_, inner, hown, _⟩ := h
  exact ⟨gx, c, rfl, own_le hown⟩
theorem escIs_snoc (l : List Int) (k : Nat) (b : Int) (hb : l[k]? = some b) : escIs (l.take (k + 1)) = escIs (l.take k) ++ escI b := by
  have hk : k < l.length := by
    rcases Nat.lt_or_ge k l.length with h' | h'
    · exact h'
    · rw [List.getElem?_eq_none h'] at hb; cases hb
  rw [List.getElem?_eq_getElem hk] at hb
  rw [List.take_succ_eq_append_getElem hk, Option.some.inj hb]
  unfold escIs
  rw [List.flatMap_append]
  simp
structure TlR (W wr : World) (l : List Int) (v : Value) (k : Nat) : Prop where
  le : k ≤ l.length
  r : (Kd.int .u8).R 5 wr W.heap.size (fun _ => True) v (escIs (l.take k))
  B : Below W.heap.size W wr
theorem texts_long (A : Option Addr) (c : Nat) (l : List Int) (W : World) (h : 2000 < l.length) : Calls Try.prog 5 #[.slice A l.length c] W fun e w' => e = .returned (.bool true) ∧ Below W.heap.size W w' := by
  have d1 : decide ((2000 : Int) < (l.length : Int)) = true := decide_eq_true (by omega)
  go_enter Try.func5, Try.ntmps5
  go_wp2_with fail
  go_ret
  exact ⟨rfl, Below.refl _ _⟩
set_option maxRecDepth 100000 in
set_option maxHeartbeats 4000000 in
theorem texts_short (A : Option Addr) (c : Nat) (l : List Int) (W : World) (hC : (Kd.int .u8).C W A l.length l) (h8 : B8 l) (h : l.length ≤ 2000) : Calls Try.prog 5 #[.slice A l.length c] W fun e w' => e = .returned (.bool true) ∧ Below W.heap.size W w' := by
  have d1 : decide ((2000 : Int) < (l.length : Int)) = false := decide_eq_false (by omega)
  have HC := Aside0.mk hC
  have H8 := Aside0.mk h8
  clear hC h8
  go_enter Try.func5, Try.ntmps5
  go_wp2_with fail
  go_loopw [3, 4] (fun v i wr => ∃ k : Nat, i = .int .i64 (k : Int) ∧ TlR W wr l v k) (fun _ i _ => l.length - (intOf i).toNat)
  case atStart => exact ⟨0, rfl, Nat.zero_le _, Kd.R_nil _ _ _ _ _, Below.refl _ _⟩
  case round =>
    rename_i v3
    obtain ⟨k, rfl, hR⟩ := hrel
    have hk := hR.le
    have HR := Aside0.mk hR
    obtain ⟨Ab, cb, rfl⟩ := Kd.R_slice hR.r
    clear hR
    by_cases hlt : k < l.length
    · have d2 : decide ((k : Int) < (l.length : Int)) = true := decide_eq_true (by omega)
      obtain ⟨ad, hA, hcj⟩ := Kd.at_int (Kd.C_below HC.out HR.out.B) (k : Int) (by omega) (by omega)
      subst hA
      rw [Int.toNat_natCast] at hcj
      obtain ⟨b, hb⟩ : ∃ b, rd l (k : Int) = b := ⟨_, rfl⟩
      rw [hb] at hcj
      have hbk : l[k]? = some b := by
        rw [← hb]; unfold rd
        rw [Int.toNat_natCast, List.getD_eq_getElem?_getD, List.getElem?_eq_getElem hlt]; rfl
      have hsn := escIs_snoc l k b hbk
      have hel := escIs_le (l.take k)
      rw [List.length_take] at hel
      have HSN := Aside0.mk hsn
      obtain ⟨acc, hacc⟩ : ∃ acc, escIs (l.take k) = acc := ⟨_, rfl⟩
      have HAC := Aside0.mk hacc
      rw [hacc] at hel
      have hr := HR.out.r
      rw [hacc] at hr
      have HRr := Aside0.mk hr
      have HBl := Aside0.mk HR.out.B
      have haccl : acc.length ≤ 4000 := by omega
      rw [hacc]
      clear hbk hsn hacc hr hel HR
      have HCJ : Aside0 (∀ w', Below W.heap.size W w' → w'.cell? (ad.add k) = some (.int .u8 b)) := ⟨fun w' hb' => by
        obtain ⟨ad', hA', hc'⟩ := Kd.at_int (Kd.C_below HC.out hb') (k : Int) (by omega) (by omega)
        injection hA' with hA'
        subst hA'
        rw [Int.toNat_natCast] at hc'
        rw [hc', ← hb]⟩
      clear hb
      by_cases h34 : b = 34 ∨ b = 92 ∨ b = 36
      · have he : escI b = [92, b] := if_pos h34
        rw [he] at HSN
        clear he
        have hw : (b == 34) = true ∨ ((b == 34) = false ∧ (b == 92) = true) ∨ ((b == 34) = false ∧ (b == 92) = false ∧ (b == 36) = true) := by
          rcases h34 with rfl | rfl | rfl
          · exact .inl rfl
          · exact .inr (.inl ⟨rfl, rfl⟩)
          · exact .inr (.inr ⟨rfl, rfl, rfl⟩)
        clear h34
        rcases hw with b1 | ⟨b1, b2⟩ | ⟨b1, b2, b3⟩
        all_goals
          · go_wp2_with (first | ((with_reducible refine gate_builtin (b := .append) (xs := #[.tmp 36, .tmp 37]) rfl ?_); at_builtin; refine Kd.R_append (Kd.int .u8) (w0 := W) W.heap.size rfl (.tmp 36) (.tmp 37) 31 5 (.int .u8 0) 1 rfl Try.underlying31 Go.Proofs.Ytgenfggjonhmgaa.Ml.info5 rfl (by decide) (by decide) (.slice Ab acc.length cb) (acc) 92 [.int .u8 92] (fun _ => True) (fun _ => False) (by rfl) (by rfl) rfl (fun _ hk => hk.elim) (fun _ _ => trivial) HRr.out HBl.out HBl.out.size (by first | omega | (simp only [List.length_append, List.length_singleton]; omega)) ?_; intro v1 w1 hr1 hb1 hg1 hat1; obtain ⟨A1, c1, rfl⟩ := Kd.R_slice hr1; simp only [List.length_append, List.length_singleton] at hr1; have HR1 := Aside0.mk hr1; have HB1 := Aside0.mk hb1; have cj1 := HCJ.out _ hb1; clear hr1 hb1 hg1 hat1) | ((with_reducible refine gate_builtin (b := .append) (xs := #[.tmp 39, .tmp 44]) rfl ?_); at_builtin; refine Kd.R_append (Kd.int .u8) (w0 := W) W.heap.size rfl (.tmp 39) (.tmp 44) 31 5 (.int .u8 0) 1 rfl Try.underlying31 Go.Proofs.Ytgenfggjonhmgaa.Ml.info5 rfl (by decide) (by decide) (.slice A1 (acc.length + 1) c1) (acc ++ [92]) b [.int .u8 b] (fun _ => True) (fun _ => False) (by rfl) (by rfl) rfl (fun _ hk => hk.elim) (fun _ _ => trivial) HR1.out HB1.out HB1.out.size (by first | omega | (simp only [List.length_append, List.length_singleton]; omega)) ?_; intro v2 w2 hr2 hb2 hg2 hat2; obtain ⟨A2, c2, rfl⟩ := Kd.R_slice hr2; simp only [List.length_append, List.length_singleton] at hr2; have HR2 := Aside0.mk hr2; have HB2 := Aside0.mk hb2; have cj2 := HCJ.out _ hb2; clear hr2 hb2 hg2 hat2))
            refine ⟨⟨k + 1, by go_num, by omega, ?_, HB2.out⟩, by simp [intOf]; omega⟩
            rw [HSN.out, HAC.out]
            have e := HR2.out
            rw [List.append_assoc] at e
            exact e
      · have he : escI b = [b] := if_neg h34
        rw [he] at HSN
        have b1 : (b == 34) = false := by simp; omega
        have b2 : (b == 92) = false := by simp; omega
        have b3 : (b == 36) = false := by simp; omega
        clear he h34
        go_wp2_with ((with_reducible refine gate_builtin (b := .append) (xs := #[.tmp 39, .tmp 44]) rfl ?_); at_builtin; refine Kd.R_append (Kd.int .u8) (w0 := W) W.heap.size rfl (.tmp 39) (.tmp 44) 31 5 (.int .u8 0) 1 rfl Try.underlying31 Go.Proofs.Ytgenfggjonhmgaa.Ml.info5 rfl (by decide) (by decide) (.slice Ab acc.length cb) (acc) b [.int .u8 b] (fun _ => True) (fun _ => False) (by rfl) (by rfl) rfl (fun _ hk => hk.elim) (fun _ _ => trivial) HRr.out HBl.out HBl.out.size (by first | omega | (simp only [List.length_append, List.length_singleton]; omega)) ?_; intro v2 w2 hr2 hb2 hg2 hat2; obtain ⟨A2, c2, rfl⟩ := Kd.R_slice hr2; simp only [List.length_append, List.length_singleton] at hr2; have HR2 := Aside0.mk hr2; have HB2 := Aside0.mk hb2; have cj2 := HCJ.out _ hb2; clear hr2 hb2 hg2 hat2)
        refine ⟨⟨k + 1, by go_num, by omega, ?_, HB2.out⟩, by simp [intOf]; omega⟩
        rw [HSN.out, HAC.out]
        exact HR2.out
    · obtain rfl : l.length = k := by omega
      have d2 : decide ((l.length : Int) < (l.length : Int)) = false := decide_eq_false (by omega)
      have hr := HR.out.r
      have HB0 := Aside0.mk HR.out.B
      rw [List.take_length] at hr ⊢
      have hel := escIs_le l
      have hcv := Kd.C_string (P := Try.prog) (src := 31) (dst := 9) (e := 5) Try.underlying31 Try.underlying5 Try.underlying9 (Kd.R_reads' hr).2.2 (c := cb)
      obtain ⟨st, hst⟩ : ∃ st, strOfNums (escIs l) = st := ⟨_, rfl⟩
      have hsz : st.size ≤ 4000 := by rw [← hst, nums_size]; omega
      have hx := lex_text l H8.out h
      have hs : ((⟨#[34]⟩ : ByteArray) ++ st) ++ (⟨#[34]⟩ : ByteArray) = strOfNums ([34] ++ (escIs l ++ [34])) := by
        show (strOfNums [34] ++ st) ++ strOfNums [34] = _
        rw [← hst, nums_app, nums_app, List.append_assoc]
      rw [← hs] at hx
      rw [hst] at hcv
      clear hr HR hs hst hk hlt hel
      by_cases h0 : l = []
      · rw [if_pos h0] at hx
        obtain ⟨X, hX⟩ : ∃ X, [(⟨5, ⟨#[]⟩, 0⟩ : S28)] ++ [⟨8, ⟨#[]⟩, ((1 + (escIs l).length : Nat) : Int)⟩, ⟨9, ⟨#[]⟩, ((2 + (escIs l).length : Nat) : Int)⟩] = X := ⟨_, rfl⟩
        rw [hX] at hx
        have HX := Aside0.mk hX
        have HLx := Aside0.mk (fun W0 => lex_calls _ X 0 0 W0 (congrArg some hx))
        have d3 : ((l.length : Int) == 0) = true := by rw [h0]; rfl
        clear hX hx h0
        go_wp2_with (first | (go_at_call 9; refine (HLx.out _).mono ?_; rintro e w2 ⟨v2, rfl, hr2, hb2⟩; have HB2 := Aside0.mk (below_step HB0.out hb2); obtain ⟨gx, cx, rfl, hcx⟩ := row_form' hr2 3 (by rw [← HX.out]; rfl) (by decide); have t0 := (tok_cells hr2 0 _ (by rw [← HX.out]; rfl)).1; have t1 := (tok_cells hr2 1 _ (by rw [← HX.out]; rfl)).1; clear hr2 hb2) | (go_at_call 10; refine (pantrylaw22_known.calls 6 true _ known_6).mono ?_; rintro e w3 ⟨rfl, hb3⟩; have HB3 := Aside0.mk (below_step HB2.out hb3); clear hb3))
        go_ret
        exact ⟨rfl, HB3.out⟩
      · rw [if_neg h0] at hx
        obtain ⟨X, hX⟩ : ∃ X, [(⟨5, ⟨#[]⟩, 0⟩ : S28), ⟨6, strOfNums l, 1⟩] ++ [⟨8, ⟨#[]⟩, ((1 + (escIs l).length : Nat) : Int)⟩, ⟨9, ⟨#[]⟩, ((2 + (escIs l).length : Nat) : Int)⟩] = X := ⟨_, rfl⟩
        rw [hX] at hx
        obtain ⟨sl, hsl⟩ : ∃ sl, strOfNums l = sl := ⟨_, rfl⟩
        rw [hsl] at hX
        have HSL := Aside0.mk hsl
        have HX := Aside0.mk hX
        have HLx := Aside0.mk (fun W0 => lex_calls _ X 0 0 W0 (congrArg some hx))
        have d3 : ((l.length : Int) == 0) = false := by
          have : l.length ≠ 0 := fun h => h0 (List.eq_nil_of_length_eq_zero h)
          simp; omega
        clear hX hx h0 hsl
        go_upto_region 15 with (go_at_call 9; refine (HLx.out _).mono ?_; rintro e w2 ⟨v2, rfl, hr2, hb2⟩; have HB2 := Aside0.mk (below_step HB0.out hb2); obtain ⟨gx, cx, rfl, hcx⟩ := row_form' hr2 4 (by rw [← HX.out]; rfl) (by decide); have t0 := (tok_cells hr2 0 _ (by rw [← HX.out]; rfl)).1; have t1 := (tok_cells hr2 1 _ (by rw [← HX.out]; rfl)); obtain ⟨t1a, t1b⟩ := t1; have t2 := (tok_cells hr2 2 _ (by rw [← HX.out]; rfl)).1; have hcb : ∀ n, (convert 31 9 (.slice A l.length c)).run Try.prog (w2.drewN n) = .ok (.string sl) (w2.drewN n) := (fun n => by rw [← HSL.out]; exact Kd.C_string (P := Try.prog) (src := 31) (dst := 9) (e := 5) Try.underlying31 Try.underlying5 Try.underlying9 (Kd.C_drewN (Kd.C_below HC.out HB2.out) n)); clear hr2 hb2)
        have hcb0 : (convert 31 9 (.slice A l.length c)).run Try.prog w2 = .ok (.string sl) w2 := hcb 0
        have hcb1 : (convert 31 9 (.slice A l.length c)).run Try.prog w2.drew = .ok (.string sl) w2.drew := hcb 1
        have t0 : w2.cell? ⟨gx, 0, none⟩ = some (.int .i64 5) := t0
        have t1a : w2.cell? ⟨gx, 3, none⟩ = some (.int .i64 6) := t1a
        have t1b : w2.cell? ⟨gx, 4, none⟩ = some (.string sl) := t1b
        have t2 : w2.cell? ⟨gx, 6, none⟩ = some (.int .i64 8) := t2
        clear hcb
        clear HLx HX HC HSL
        go_still_tail 34, (by kernel_rfl)
        clear hcb0 hcb1 hcv
        change wpList _ _ _ _ _ w2.drew
        have HBd := Aside0.mk (below_drew HB2.out)
        clear HB2 t0 t1a t1b t2
        generalize w2.drew = w3 at *
        go_wp2_with (go_at_call 10; refine (pantrylaw22_known.calls 6 true _ known_6).mono ?_; rintro e w4 ⟨rfl, hb4⟩; have HB4 := Aside0.mk (below_step HBd.out hb4); clear hb4)
        go_ret
        exact ⟨rfl, HB4.out⟩
theorem LexTexts.calls (A : Option Addr) (c : Nat) (l : List Int) (r : Bool) (W : World) (hC : (Kd.int .u8).C W A l.length l) (hc : l.length ≤ c) (h : B8 l) : Calls Try.prog 5 #[.slice A l.length c] W fun e w' => e = .returned (.bool true) ∧ Below W.heap.size W w' := by
  rcases Nat.lt_or_ge 2000 l.length with h1 | h1
  · exact texts_long A c l W h1
  · exact texts_short A c l W hC h h1
end Go.Proofs.Ytgenfggjonhmgaa.Lt
