/- lex: how far bytes of a kind go. Own work. -/
import Derived.Test.YtgenfggjonhmgaaLxA
namespace Go.Proofs.Ytgenfggjonhmgaa.Lx
set_option linter.unusedVariables false
set_option linter.unusedSimpArgs false
open Go.RowKit Go.Proofs.Ytgenfggjonhmgaa.Ml Go.Proofs.Ytgenfggjonhmgaa.PL Go.Proofs.YtgenfggjonhmgaaW.PrintWords Go.Proofs.YtgenfggjonhmgaaW.PrintLast Go.Proofs.YtgenfggjonhmgaaW.PrintMore
variable {w0 W : World} {g : Nat} {s : ByteArray} {i : Int} {v2 v3 : Value} {l : List S28} {m : List S42} {wr : Int}
def isLet (c : Int) : Bool := (decide (97 ≤ c) && decide (c ≤ 122)) || (decide (65 ≤ c) && decide (c ≤ 90)) || c == 95
def isDig (c : Int) : Bool := decide (48 ≤ c) && decide (c ≤ 57)
def isNam (c : Int) : Bool := isLet c || isDig c || c == 39 || c == 45
theorem letter_any (c : Int) (w : World) : Calls Try.prog 22 #[.int .u8 c] w fun e w' => e = .returned (.bool (isLet c)) ∧ w' = w := by
  by_cases h1 : 97 ≤ c <;> by_cases h2 : c ≤ 122 <;> by_cases h3 : 65 ≤ c <;> by_cases h4 : c ≤ 90
  all_goals try (exfalso; omega)
  all_goals
    go_enter Try.func22, Try.ntmps22
    go_wp2
    go_ret
    refine ⟨?_, rfl⟩
    simp [isLet, h1, h2, h3, h4] <;> omega
theorem digit_any (c : Int) (w : World) : Calls Try.prog 24 #[.int .u8 c] w fun e w' => e = .returned (.bool (isDig c)) ∧ w' = w := by
  by_cases h1 : 48 ≤ c
  all_goals
    go_enter Try.func24, Try.ntmps24
    go_wp2
    go_ret
    refine ⟨?_, rfl⟩
    simp [isDig, h1] <;> omega
theorem nam_any (c : Int) (w : World) : Calls Try.prog 31 #[.int .u8 c] w fun e w' => e = .returned (.bool (isNam c)) ∧ w' = w := by
  by_cases h1 : isLet c = true <;> by_cases h2 : isDig c = true <;> by_cases h3 : (c == 39) = true
  all_goals
    go_enter Try.func31, Try.ntmps31
    go_wp2_with (first | (go_at_call 22; refine (letter_any _ _).mono ?_; rintro e w1 ⟨rfl, rfl⟩) | (go_at_call 24; refine (digit_any _ _).mono ?_; rintro e w2 ⟨rfl, rfl⟩))
    go_ret
    refine ⟨?_, rfl⟩
    simp [isNam, h1, h2, h3]
/-- how far -/
def runTo (p : Int → Bool) (l : List Int) (k : Nat) : Nat := k + ((l.drop k).takeWhile p).length
theorem runTo_here {p : Int → Bool} {l : List Int} {k : Nat} (h : l.length ≤ k ∨ p (l.getD k 0) = false) : runTo p l k = k := by
  unfold runTo
  rcases h with h | h
  · rw [List.drop_eq_nil_of_le h]; rfl
  · by_cases hk : k < l.length
    · rw [List.drop_eq_getElem_cons hk, List.takeWhile_cons]
      rw [List.getD_eq_getElem?_getD, List.getElem?_eq_getElem hk] at h
      have h' : p l[k] = false := h
      simp [h']
    · rw [List.drop_eq_nil_of_le (by omega)]; rfl
theorem runTo_next {p : Int → Bool} {l : List Int} {k : Nat} (hk : k < l.length) (h : p (l.getD k 0) = true) : runTo p l k = runTo p l (k + 1) := by
  unfold runTo
  rw [List.drop_eq_getElem_cons hk, List.takeWhile_cons]
  rw [List.getD_eq_getElem?_getD, List.getElem?_eq_getElem hk] at h
  have h' : p l[k] = true := h
  simp [h']
  omega
theorem runTo_le (p : Int → Bool) (l : List Int) (k : Nat) (hk : k ≤ l.length) : k ≤ runTo p l k ∧ runTo p l k ≤ l.length := by
  unfold runTo
  have := (List.takeWhile_sublist p (l := l.drop k)).length_le
  rw [List.length_drop] at this
  omega
theorem bytes_getD (s : ByteArray) (k : Nat) (h : k < s.size) : (bytesOf s).getD k 0 = (s[k].toNat : Int) := by
  unfold bytesOf
  rw [List.getD_eq_getElem?_getD, List.getElem?_map, List.getElem?_eq_getElem (by rw [Array.length_toList]; exact h)]
  simp
  rfl
set_option maxHeartbeats 1000000 in
theorem while_digit (h : LXv w0 W g s i v2 l v3 m wr) (k0 : Nat) (hk0 : k0 ≤ s.size) (hs : s.size ≤ 1000000) : Calls Try.prog 30 #[.pointer (some ⟨g, 0, none⟩), .int .i64 (k0 : Int), .func (.func 24) #[] #[]] W fun e w' => e = .returned (.int .i64 (runTo isDig (bytesOf s) k0 : Int)) ∧ w' = W := by
  have hc0 : W.cell? ⟨g, 0, none⟩ = some (.string s) := (blk_cell h.b 0).trans rfl
  clear h
  have hbl : (bytesOf s).length = s.size := bytesOf_length s
  go_enter Try.func30, Try.ntmps30
  go_wp2_with fail
  go_loopw [1] (fun v wr => ∃ k : Nat, v = .int .i64 (k : Int) ∧ k ≤ s.size ∧ runTo isDig (bytesOf s) k0 = runTo isDig (bytesOf s) k ∧ wr = W) (fun v _ => s.size - (intOf v).toNat)
  case atStart => exact ⟨k0, rfl, hk0, rfl, rfl⟩
  case round =>
    obtain ⟨k, rfl, hk, hr, rfl⟩ := hrel
    by_cases hlt : k < s.size
    · have hb1 : decide ((k : Int) < (s.size : Int)) = true := decide_eq_true (by omega)
      have hbd := bytes_getD s k hlt
      by_cases hp : isDig (s[k].toNat : Int) = true
      · have hn := runTo_next (p := isDig) (l := bytesOf s) (k := k) (by omega) (by rw [hbd]; exact hp)
        go_wp2_with (go_at_call 24; refine (digit_any _ _).mono ?_; rintro e w1 ⟨rfl, rfl⟩)
        exact ⟨⟨k + 1, by go_num, by omega, hr.trans hn, trivial⟩, by simp [intOf]; omega⟩
      · have hp : isDig (s[k].toNat : Int) = false := by simpa using hp
        have hn := runTo_here (p := isDig) (l := bytesOf s) (k := k) (.inr (by rw [hbd]; exact hp))
        go_wp2_with (go_at_call 24; refine (digit_any _ _).mono ?_; rintro e w1 ⟨rfl, rfl⟩)
        go_ret
        exact ⟨by rw [hr, hn]; rfl, rfl⟩
    · have hb1 : decide ((k : Int) < (s.size : Int)) = false := decide_eq_false (by omega)
      have hn := runTo_here (p := isDig) (l := bytesOf s) (k := k) (.inl (by omega))
      go_wp2_with fail
      go_ret
      exact ⟨by rw [hr, hn]; rfl, rfl⟩
set_option maxHeartbeats 1000000 in
theorem while_name (h : LXv w0 W g s i v2 l v3 m wr) (k0 : Nat) (hk0 : k0 ≤ s.size) (hs : s.size ≤ 1000000) : Calls Try.prog 30 #[.pointer (some ⟨g, 0, none⟩), .int .i64 (k0 : Int), .func (.func 31) #[] #[]] W fun e w' => e = .returned (.int .i64 (runTo isNam (bytesOf s) k0 : Int)) ∧ w' = W := by
  have hc0 : W.cell? ⟨g, 0, none⟩ = some (.string s) := (blk_cell h.b 0).trans rfl
  clear h
  have hbl : (bytesOf s).length = s.size := bytesOf_length s
  go_enter Try.func30, Try.ntmps30
  go_wp2_with fail
  go_loopw [1] (fun v wr => ∃ k : Nat, v = .int .i64 (k : Int) ∧ k ≤ s.size ∧ runTo isNam (bytesOf s) k0 = runTo isNam (bytesOf s) k ∧ wr = W) (fun v _ => s.size - (intOf v).toNat)
  case atStart => exact ⟨k0, rfl, hk0, rfl, rfl⟩
  case round =>
    obtain ⟨k, rfl, hk, hr, rfl⟩ := hrel
    by_cases hlt : k < s.size
    · have hb1 : decide ((k : Int) < (s.size : Int)) = true := decide_eq_true (by omega)
      have hbd := bytes_getD s k hlt
      by_cases hp : isNam (s[k].toNat : Int) = true
      · have hn := runTo_next (p := isNam) (l := bytesOf s) (k := k) (by omega) (by rw [hbd]; exact hp)
        go_wp2_with (go_at_call 31; refine (nam_any _ _).mono ?_; rintro e w1 ⟨rfl, rfl⟩)
        exact ⟨⟨k + 1, by go_num, by omega, hr.trans hn, trivial⟩, by simp [intOf]; omega⟩
      · have hp : isNam (s[k].toNat : Int) = false := by simpa using hp
        have hn := runTo_here (p := isNam) (l := bytesOf s) (k := k) (.inr (by rw [hbd]; exact hp))
        go_wp2_with (go_at_call 31; refine (nam_any _ _).mono ?_; rintro e w1 ⟨rfl, rfl⟩)
        go_ret
        exact ⟨by rw [hr, hn]; rfl, rfl⟩
    · have hb1 : decide ((k : Int) < (s.size : Int)) = false := decide_eq_false (by omega)
      have hn := runTo_here (p := isNam) (l := bytesOf s) (k := k) (.inl (by omega))
      go_wp2_with fail
      go_ret
      exact ⟨by rw [hr, hn]; rfl, rfl⟩
/-- the mode on top, in memory -/
theorem LXv.modes (h : LXv w0 W g s i v2 l v3 m wr) (hm : 0 < m.length) : ∃ gm c, v3 = .slice (some ⟨gm, 0, none⟩) m.length c := by
  obtain ⟨_, inner, hown, _⟩ := h.r3
  obtain ⟨gm, c, e, _⟩ := hown.form hm
  exact ⟨gm, c, e⟩
theorem top_any (h : LXv w0 W g s i v2 l v3 m wr) (gm c : Nat) (hv : v3 = .slice (some ⟨gm, 0, none⟩) m.length c) (hm : 0 < m.length) (hmm : m.length ≤ 1000000) : Calls Try.prog 14 #[.pointer (some ⟨g, 0, none⟩)] W fun e w' => e = .returned (.pointer (some ⟨gm, (m.length - 1) * 3, none⟩)) ∧ Drawn0 W w' := by
  subst hv
  have hc3 : W.cell? ⟨g, 3, none⟩ = some (.slice (some ⟨gm, 0, none⟩) m.length c) := (blk_cell h.b 3).trans rfl
  clear h
  have e1 : IntKind.i64.wrap ((m.length : Int) - 1) = ((m.length - 1 : Nat) : Int) := by rw [show ((m.length : Int) - 1) = ((m.length - 1 : Nat) : Int) by omega]; rw [IntKind.wrap_i64]; omega
  go_enter Try.func14, Try.ntmps14
  go_wp2
  go_quiet (fail)
  go_wp2
  go_ret
  exact ⟨rfl, ⟨nq, rfl⟩⟩
theorem LXv.drawn (h : LXv w0 W g s i v2 l v3 m wr) {W' : World} (hd : Drawn0 W W') : LXv w0 W' g s i v2 l v3 m wr := by
  obtain ⟨n, rfl⟩ := hd.out
  exact ⟨h.b, Kd.R_drewN h.r2 n, Kd.R_drewN h.r3 n, h.hg, pw_below_drewN h.B n⟩
/-- the cells of a mode -/
theorem LXv.mode (h : LXv w0 W g s i v2 l v3 m wr) (gm c : Nat) (hv : v3 = .slice (some ⟨gm, 0, none⟩) m.length c) (k : Nat) (hk : k < m.length) :
    W.cell? ⟨gm, k * 3, none⟩ = some (.bool (m.getD k z42).f0) ∧ W.cell? ⟨gm, k * 3 + 1, none⟩ = some (.int .i64 (m.getD k z42).f1) ∧ W.cell? ⟨gm, k * 3 + 2, none⟩ = some (.int .i64 (m.getD k z42).f2) := by
  subst hv
  obtain ⟨ad, he, h0, h1, h2⟩ := at_T42 (Kd.R_reads' h.r3).2.2 (k : Int) (by omega) (by omega)
  injection he with he
  subst he
  simp only [add_plain, Int.toNat_natCast] at h0 h1 h2
  exact ⟨h0, h1, h2⟩
set_option maxHeartbeats 1000000 in
theorem ends_any (h : LXv w0 W g s i v2 l v3 m wr) (hm : 2 ≤ m.length) (hmm : m.length ≤ 1000000) (mt ms : S42) (hmt : m.getD (m.length - 1) z42 = mt) (hms : m.getD (m.length - 2) z42 = ms) : Calls Try.prog 13 #[.pointer (some ⟨g, 0, none⟩)] W fun e w' => e = .returned (.tuple #[]) ∧
    LXv w0 w' g s i v2 l v3 m (if mt.f0 = true then mt.f1 else ms.f1) := by
  obtain ⟨gm, c, rfl⟩ := h.modes (by omega)
  have HH := Aside0.mk h
  have HT := Aside0.mk hmt
  have HS := Aside0.mk hms
  have hc3 : W.cell? ⟨g, 3, none⟩ = some (.slice (some ⟨gm, 0, none⟩) m.length c) := (blk_cell h.b 3).trans rfl
  clear h hmt hms
  cases ht : mt.f0
  · rw [if_neg (by decide)]
    go_enter Try.func13, Try.ntmps13
    go_upto_region 2 with (go_at_call 14; refine (top_any HH.out gm c rfl (by omega) hmm).mono ?_; rintro e w1 ⟨rfl, hd⟩; have HH1 := Aside0.mk (HH.out.drawn hd); have c0 := (HH1.out.mode gm c rfl (m.length - 1) (by omega)).1; have c1 := (HH1.out.mode gm c rfl (m.length - 1) (by omega)).2.1; rw [HT.out] at c0 c1; rw [ht] at c0; clear hd)
    have hc3 : w1.cell? ⟨g, 3, none⟩ = some (.slice (some ⟨gm, 0, none⟩) m.length c) := (blk_cell HH1.out.b 3).trans rfl
    have e2 : IntKind.i64.wrap ((m.length : Int) - 2) = ((m.length - 2 : Nat) : Int) := by rw [show ((m.length : Int) - 2) = ((m.length - 2 : Nat) : Int) by omega, IntKind.wrap_i64]; omega
    go_quiet (fail)
    have HH2 := Aside0.mk (HH1.out.drawn ⟨⟨nq, rfl⟩⟩)
    generalize w1.drewN nq = w2 at *
    have c2 := (HH2.out.mode gm c rfl (m.length - 2) (by omega)).2.1
    rw [HS.out] at c2
    go_wp2_with (go_at_call 18; refine (fails_any (HH2.out) _).mono ?_; rintro e w3 ⟨rfl, HH3⟩)
    go_end0
    exact ⟨rfl, HH3⟩
  · rw [if_pos rfl]
    go_enter Try.func13, Try.ntmps13
    go_wp2_with (first | (go_at_call 14; refine (top_any HH.out gm c rfl (by omega) hmm).mono ?_; rintro e w1 ⟨rfl, hd⟩; have HH1 := Aside0.mk (HH.out.drawn hd); have c0 := (HH1.out.mode gm c rfl (m.length - 1) (by omega)).1; have c1 := (HH1.out.mode gm c rfl (m.length - 1) (by omega)).2.1; rw [HT.out] at c0 c1; rw [ht] at c0; clear hd) | (go_at_call 18; refine (fails_any (HH1.out) _).mono ?_; rintro e w2 ⟨rfl, HH2⟩))
    go_end0
    exact ⟨rfl, HH2⟩
end Go.Proofs.Ytgenfggjonhmgaa.Lx
