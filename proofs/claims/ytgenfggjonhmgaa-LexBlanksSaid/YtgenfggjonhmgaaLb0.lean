/- chapter 22: LexBlanks' walk. Own work. -/
import Derived.Test.YtgenfggjonhmgaaLxN
import Derived.Test.YtgenfggjonhmgaaLxSim
namespace Go.Proofs.Ytgenfggjonhmgaa.Lb
set_option linter.unusedVariables false
set_option linter.unusedSimpArgs false
open Go.RowKit Go.Proofs.Ytgenfggjonhmgaa.Ml Go.Proofs.Ytgenfggjonhmgaa.Mm Go.Proofs.Ytgenfggjonhmgaa.Lx Go.Proofs.Ytgenfggjonhmgaa.PL Go.Proofs.YtgenfggjonhmgaaW.PrintWords Go.Proofs.YtgenfggjonhmgaaW.PrintLast Go.Proofs.YtgenfggjonhmgaaW.PrintMore
theorem lex_at (s : ByteArray) (r : List S28 × Int × Int) (h : lexS s = r) (w : World) : Calls Try.prog 9 #[.string s] w fun e w' => ∃ v1_ : Value, e = .returned (.tuple #[v1_, .int .i64 r.2.1, .int .i64 r.2.2]) ∧ Kd.R k28 28 w' w.heap.size (fun _ => True) v1_ r.1 ∧ Below w.heap.size w w' := lex_calls s r.1 r.2.1 r.2.2 w (congrArg some h)
theorem known_at (w : World) : Calls Try.prog 10 #[] w fun e w' => e = .returned (.bool true) ∧ Below w.heap.size w w' := pantrylaw22_known.calls 6 true w known_6
theorem blanks_long (a b : ByteArray) (W : World) (ha : a.size ≤ 140737488351232) (hb : b.size ≤ 140737488351232) (h : 2000 < a.size + b.size) : Calls Try.prog 4 #[.string a, .string b] W fun e w' => e = .returned (.bool true) ∧ Below W.heap.size W w' := by
  have d1 : decide ((2000 : Int) < (a.size : Int) + (b.size : Int)) = true := decide_eq_true (by omega)
  go_enter Try.func4, Try.ntmps4
  go_wp2_with fail
  go_ret
  exact ⟨rfl, Below.refl _ _⟩
theorem blanks_bad (a b : ByteArray) (W : World) (h : a.size + b.size ≤ 2000) (ra rb rc : List S28 × Int × Int) (ha : lexS a = ra) (hb : lexS b = rb) (hc : lexS ((a ++ ofL sepU) ++ b) = rc) (hbad : (ra.2.2 != 0) = true ∨ ((ra.2.2 != 0) = false ∧ (rb.2.2 != 0) = true)) : Calls Try.prog 4 #[.string a, .string b] W fun e w' => e = .returned (.bool true) ∧ Below W.heap.size W w' := by
  have d1 : decide ((2000 : Int) < (a.size : Int) + (b.size : Int)) = false := decide_eq_false (by omega)
  have g1 : a.size ≤ 2000 := by omega
  have g2 : b.size ≤ 2000 := by omega
  have HA := Aside0.mk (fun w => lex_at a ra ha w)
  have HB := Aside0.mk (fun w => lex_at b rb hb w)
  have HC := Aside0.mk (fun w => lex_at _ rc hc w)
  obtain ⟨la, pa, ea⟩ := ra
  obtain ⟨lb, pb, eb⟩ := rb
  obtain ⟨lc, pc, ec⟩ := rc
  simp only at hbad
  clear ha hb hc h
  rcases hbad with q1 | ⟨q1, q2⟩
  all_goals
    go_enter Try.func4, Try.ntmps4
    go_wp2_with (first | (go_at_call 9; first | (refine (HA.out _).mono ?_; rintro e w2 ⟨va, rfl, hra, hba⟩; have B2 := Aside0.mk hba; clear hra hba HA) | (refine (HB.out _).mono ?_; rintro e w3 ⟨vb, rfl, hrb, hbb⟩; have B3 := Aside0.mk (below_step B2.out hbb); clear hrb hbb HB) | (refine (HC.out _).mono ?_; rintro e w4 ⟨vc, rfl, hrc, hbc⟩; have B4 := Aside0.mk (below_step B3.out hbc); clear hrc hbc HC)) | (go_at_call 10; refine (known_at _).mono ?_; rintro e w5 ⟨rfl, hb5⟩; have B5 := Aside0.mk (below_step B4.out hb5); clear hb5))
    go_ret
    exact ⟨rfl, B5.out⟩
theorem lex_len (s : ByteArray) (h : s.size ≤ 16384) : (lexS s).1.length ≤ 40000 := by
  have hO := (end_ind h (fun _ => True) trivial (fun _ _ _ _ => trivial)).2.1
  rw [lexS_of h rfl]
  split
  · exact Nat.zero_le _
  · rw [List.length_append, List.length_singleton]
    have := hO.ll
    have := hO.le
    omega
theorem row_c {w : World} {base : Nat} {ok : Nat → Prop} {v : Value} {l : List S28} (h : k28.R 28 w base ok v l) (n : Nat) (hn : l.length = n) (h0 : 0 < n) : ∃ gx c, v = .slice (some ⟨gx, 0, none⟩) n c ∧ n ≤ c ∧ Kd.C k28 w (some ⟨gx, 0, none⟩) n l ∧ gx < w.heap.size := by
  subst hn
  obtain ⟨_, inner, hown, _⟩ := id h
  obtain ⟨gx, c, e, _⟩ := hown.form h0
  subst e
  exact ⟨gx, c, rfl, own_le hown, (Kd.R_reads' h).2.2, own_lt hown gx rfl⟩
theorem cell3 {w : World} {gx n : Nat} {l : List S28} (h : Kd.C k28 w (some ⟨gx, 0, none⟩) n l) (k : Nat) (hk : k < n) (x : S28) (hx : l[k]? = some x) :
    w.cell? ⟨gx, k * 3, none⟩ = some (.int .i64 x.f0) ∧ w.cell? ⟨gx, k * 3 + 1, none⟩ = some (.string x.f1) ∧ w.cell? ⟨gx, k * 3 + 2, none⟩ = some (.int .i64 x.f2) := by
  obtain ⟨ad, he, h0, h1, h2⟩ := at_T28 h (k : Int) (by omega) (by omega)
  injection he with he
  subst he
  have hr : rd_T28 l (k : Int) = x := by unfold rd_T28; rw [Int.toNat_natCast, List.getD_eq_getElem?_getD, hx]; rfl
  rw [hr] at h0 h1 h2
  simp only [add_plain, Int.toNat_natCast] at h0 h1 h2
  exact ⟨h0, h1, h2⟩
structure BlR (W wr : World) (gl gm gn nl nm nn : Nat) (l m n : List S28) (k : Nat) : Prop where
  le : k ≤ nn
  B : Below W.heap.size W wr
  cl : Kd.C k28 wr (some ⟨gl, 0, none⟩) nl l
  cm : Kd.C k28 wr (some ⟨gm, 0, none⟩) nm m
  cn : Kd.C k28 wr (some ⟨gn, 0, none⟩) nn n
theorem BlR.next {W wr w' : World} {gl gm gn nl nm nn : Nat} {l m n : List S28} {k : Nat} (h : BlR W wr gl gm gn nl nm nn l m n k) (hk : k < nn) (hb : Below wr.heap.size wr w') : BlR W w' gl gm gn nl nm nn l m n (k + 1) :=
  ⟨hk, below_step h.B hb, Kd.C_below h.cl hb, Kd.C_below h.cm hb, Kd.C_below h.cn hb⟩
set_option maxRecDepth 100000 in
set_option maxHeartbeats 4000000 in
theorem blanks_ok (a b : ByteArray) (W : World) (h : a.size + b.size ≤ 2000) (l m n : List S28) (ha : lexS a = (l, 0, 0)) (hb : lexS b = (m, 0, 0)) (hc : lexS ((a ++ ofL sepU) ++ b) = (n, 0, 0)) (nl nm nn : Nat) (hl : l.length = nl) (hm : m.length = nm) (hn : n.length = nn) (hnl : 1 ≤ nl ∧ nl ≤ 40000) (hnm : 1 ≤ nm ∧ nm ≤ 40000) (hnn : nn = nl - 1 + nm)
    (hk : ∀ k x, n[k]? = some x → (k < nl - 1 → ∃ y, l[k]? = some y ∧ y.f0 = x.f0 ∧ y.f1 = x.f1) ∧ (nl - 1 ≤ k → ∃ y, m[k + 1 - nl]? = some y ∧ y.f0 = x.f0 ∧ y.f1 = x.f1)) :
    Calls Try.prog 4 #[.string a, .string b] W fun e w' => e = .returned (.bool true) ∧ Below W.heap.size W w' := by
  have d1 : decide ((2000 : Int) < (a.size : Int) + (b.size : Int)) = false := decide_eq_false (by omega)
  have g1 : a.size ≤ 2000 := by omega
  have g2 : b.size ≤ 2000 := by omega
  have HA := Aside0.mk (fun w => lex_at a _ ha w)
  have HB := Aside0.mk (fun w => lex_at b _ hb w)
  have HC := Aside0.mk (fun w => lex_at _ _ hc w)
  have HL := Aside0.mk (And.intro hl (And.intro hm hn))
  have HK := Aside0.mk hk
  have HN := Aside0.mk hnn
  obtain ⟨l1, l2⟩ := hnl
  obtain ⟨m1, m2⟩ := hnm
  have hnb : nn ≤ 80000 ∧ 1 ≤ nn := by omega
  obtain ⟨n2, n1⟩ := hnb
  clear ha hb hc h hl hm hn hk hnn
  go_enter Try.func4, Try.ntmps4
  go_wp2_with (go_at_call 9; first | (refine (HA.out _).mono ?_; rintro e w2 ⟨va, rfl, hra, hba⟩; have B2 := Aside0.mk hba; obtain ⟨gl, cl, rfl, hcl, hCl, -⟩ := row_c hra nl HL.out.1 (by omega); have RA := Aside0.mk hCl; clear hra hba HA hCl) | (refine (HB.out _).mono ?_; rintro e w3 ⟨vb, rfl, hrb, hbb⟩; have B3 := Aside0.mk (below_step B2.out hbb); obtain ⟨gm, cm, rfl, hcm, hCm, -⟩ := row_c hrb nm HL.out.2.1 (by omega); have RA3 := Aside0.mk (Kd.C_below RA.out hbb); have RB := Aside0.mk hCm; clear hrb hbb HB hCm RA) | (refine (HC.out _).mono ?_; rintro e w4 ⟨vc, rfl, hrc, hbc⟩; have B4 := Aside0.mk (below_step B3.out hbc); obtain ⟨gn, cn, rfl, hcn, hCn, -⟩ := row_c hrc nn HL.out.2.2 (by omega); have R4 := Aside0.mk (BlR.mk (k := 0) (Nat.zero_le _) B4.out (Kd.C_below RA3.out hbc) (Kd.C_below RB.out hbc) hCn); clear hrc hbc HC hCn RA3 RB B2 B3))
  go_loopw [14] (fun u wr => ∃ k : Nat, u = .int .i64 (k : Int) ∧ k ≤ a.size ∧ wr = w4) (fun u _ => a.size - (intOf u).toNat)
  case atStart => exact ⟨0, rfl, Nat.zero_le _, rfl⟩
  case round =>
    obtain ⟨k, rfl, hka, rfl⟩ := hrel
    by_cases hlt : k < a.size
    · have d2 : decide ((k : Int) < (a.size : Int)) = true := decide_eq_true (by omega)
      have d2n : decide (k < a.size) = true := decide_eq_true hlt
      by_cases h35 : (a[k].toNat : Int) = 35
      · have b1 : ((a[k].toNat : Int) == 35) = true := by simpa using h35
        clear h35
        go_wp2_with (go_at_call 10; refine (known_at _).mono ?_; rintro e w5 ⟨rfl, hb5⟩; have B5 := Aside0.mk (below_step B4.out hb5); clear hb5)
        go_ret
        exact ⟨rfl, B5.out⟩
      · have b1 : ((a[k].toNat : Int) == 35) = false := by simpa using h35
        clear h35
        go_wp2_with fail
        exact ⟨⟨k + 1, by go_num, hlt, trivial⟩, by simp [intOf]; omega⟩
    · have d2 : decide ((k : Int) < (a.size : Int)) = false := decide_eq_false (by omega)
      have d2n : decide (k < a.size) = false := decide_eq_false hlt
      have e1 : decide ((nl : Int) < 1) = false := decide_eq_false (by omega)
      have e2 : decide ((nm : Int) < 1) = false := decide_eq_false (by omega)
      have e3 : (((nn : Int) != (nl : Int) - 1 + (nm : Int))) = false := by rw [HN.out]; simp; omega
      go_wp2_with fail
      obtain ⟨wo, rfl⟩ : ∃ wo : World, wo = wr := ⟨_, rfl⟩
      clear d2 d2n hlt hka
      go_loopw [15] (fun u wr => ∃ k : Nat, u = .int .i64 (k : Int) ∧ BlR W wr gl gm gn nl nm nn l m n k) (fun u _ => nn - (intOf u).toNat)
      case atStart => exact ⟨0, rfl, R4.out⟩
      case round =>
        clear R4 B4
        obtain ⟨k, rfl, hR⟩ := hrel
        have hkn := hR.le
        have HR := Aside0.mk hR
        clear hR
        by_cases hlt : k < nn
        · have d2 : decide ((k : Int) < (nn : Int)) = true := decide_eq_true (by omega)
          have d2n : decide (k < nn) = true := decide_eq_true hlt
          have hxe : n[k]? = some (n[k]'(by rw [HL.out.2.2]; exact hlt)) := List.getElem?_eq_getElem (by rw [HL.out.2.2]; exact hlt)
          obtain ⟨q1, q2⟩ := HK.out k _ hxe
          obtain ⟨x0, x1, x2⟩ := cell3 HR.out.cn k hlt _ hxe
          clear hxe
          generalize (n[k]'(by rw [HL.out.2.2]; exact hlt)) = x at *
          obtain ⟨f0, f1, f2⟩ := x
          simp only at q1 q2 x0 x1 x2
          by_cases hkl : k < nl - 1
          · have d3 : decide ((k : Int) < (nl : Int) - 1) = true := decide_eq_true (by omega)
            have q := q1 hkl
            clear q1 q2
            have g3 : (k : Int) < (nl : Int) := by omega
            have g4 : k < nl := by omega
            obtain ⟨y, hy, rfl, rfl⟩ := q
            have y012 := fun o o' : Obj => cell3 (Kd.C_below HR.out.cl (below_alloc (below_alloc (Below.refl _ wr) o) o')) k g4 _ hy
            obtain ⟨p0, p1, p2⟩ := y
            simp only at x0 x1 x2 y012
            have y0 := fun o o' : Obj => (y012 o o').1
            have y1 := fun o o' : Obj => (y012 o o').2.1
            have y2 := fun o o' : Obj => (y012 o o').2.2
            clear y012 hy hkl g4
            go_wp2_with fail
            refine ⟨⟨k + 1, by go_num, HR.out.next hlt (below_alloc (below_alloc (Below.refl _ _) _) _)⟩, by simp [intOf]; omega⟩
          · have d3 : decide ((k : Int) < (nl : Int) - 1) = false := decide_eq_false (by omega)
            have q := q2 (by clear q1 q2; omega)
            clear q1 q2
            have hnn := HN.out
            obtain ⟨j, hj⟩ : ∃ j, k + 1 - nl = j := ⟨_, rfl⟩
            rw [hj] at q
            have g5 : (j : Int) < (nm : Int) := by omega
            have g6 : j < nm := by omega
            have ej : (k : Int) - (nl : Int) + 1 = (j : Int) := by omega
            obtain ⟨y, hy, rfl, rfl⟩ := q
            have y012 := fun o o' : Obj => cell3 (Kd.C_below HR.out.cm (below_alloc (below_alloc (Below.refl _ wr) o) o')) j g6 _ hy
            obtain ⟨p0, p1, p2⟩ := y
            simp only at x0 x1 x2 y012
            have y0 := fun o o' : Obj => (y012 o o').1
            have y1 := fun o o' : Obj => (y012 o o').2.1
            have y2 := fun o o' : Obj => (y012 o o').2.2
            clear y012 hy hkl hnn g6
            have EJ := Aside0.mk hj
            clear hj
            go_wp2_with fail
            refine ⟨⟨k + 1, by go_num, HR.out.next hlt (below_alloc (below_alloc (Below.refl _ _) _) _)⟩, by simp [intOf]; omega⟩
        · have d2 : decide ((k : Int) < (nn : Int)) = false := decide_eq_false (by omega)
          have d2n : decide (k < nn) = false := decide_eq_false hlt
          go_wp2_with (go_at_call 10; refine (known_at _).mono ?_; rintro e w5 ⟨rfl, hb5⟩; have B5 := Aside0.mk (below_step HR.out.B hb5); clear hb5)
          go_ret
          exact ⟨rfl, B5.out⟩
theorem keys_at {l m n : List S28} (hl : 1 ≤ l.length) (h : n.map key = (l.take (l.length - 1)).map key ++ m.map key) (k : Nat) (x : S28) (hx : n[k]? = some x) :
    (k < l.length - 1 → ∃ y, l[k]? = some y ∧ y.f0 = x.f0 ∧ y.f1 = x.f1) ∧ (l.length - 1 ≤ k → ∃ y, m[k + 1 - l.length]? = some y ∧ y.f0 = x.f0 ∧ y.f1 = x.f1) := by
  have h1 : (n.map key)[k]? = some (key x) := by rw [List.getElem?_map, hx]; rfl
  rw [h] at h1
  have hlen : ((l.take (l.length - 1)).map key).length = l.length - 1 := by rw [List.length_map, List.length_take]; omega
  refine ⟨fun hk => ?_, fun hk => ?_⟩
  · rw [List.getElem?_append_left (by rw [hlen]; exact hk), List.getElem?_map, List.getElem?_take, if_pos hk] at h1
    cases hy : l[k]? with
    | none => rw [hy] at h1; cases h1
    | some y =>
      rw [hy] at h1
      have h2 := Option.some.inj h1
      exact ⟨y, rfl, congrArg Prod.fst h2, congrArg Prod.snd h2⟩
  · rw [List.getElem?_append_right (by rw [hlen]; exact hk), hlen, List.getElem?_map, show k - (l.length - 1) = k + 1 - l.length by omega] at h1
    cases hy : m[k + 1 - l.length]? with
    | none => rw [hy] at h1; cases h1
    | some y =>
      rw [hy] at h1
      have h2 := Option.some.inj h1
      exact ⟨y, rfl, congrArg Prod.fst h2, congrArg Prod.snd h2⟩
theorem LexBlanks.calls (a b : ByteArray) (r : Bool) (W : World) (h : a.size ≤ 140737488351232 ∧ b.size ≤ 140737488351232) : Calls Try.prog 4 #[.string a, .string b] W fun e w' => e = .returned (.bool true) ∧ Below W.heap.size W w' := by
  rcases Nat.lt_or_ge 2000 (a.size + b.size) with h1 | h1
  · exact blanks_long a b W h.1 h.2 h1
  · by_cases ha : (lexS a).2.2 = 0
    · by_cases hb : (lexS b).2.2 = 0
      · obtain ⟨l, m, n, e1, e2, e3, k1, k2, k3, k4⟩ := lex_blanks a b h1 ha hb
        have b1 := lex_len a (by omega)
        have b2 := lex_len b (by omega)
        rw [e1] at b1
        rw [e2] at b2
        exact blanks_ok a b W h1 l m n e1 e2 e3 _ _ _ rfl rfl rfl ⟨k1, b1⟩ ⟨k2, b2⟩ k3 (keys_at k1 k4)
      · exact blanks_bad a b W h1 _ _ _ rfl rfl rfl (.inr ⟨by rw [ha]; rfl, bne_iff_ne.2 hb⟩)
    · exact blanks_bad a b W h1 _ _ _ rfl rfl rfl (.inl (bne_iff_ne.2 ha))
end Go.Proofs.Ytgenfggjonhmgaa.Lb
