/- lex: a sign. Own work. -/
import Derived.Test.YtgenfggjonhmgaaLxD
import Derived.StillTailTactics
namespace Go.Proofs.Ytgenfggjonhmgaa.Lx
set_option linter.unusedVariables false
set_option linter.unusedSimpArgs false
open Go.RowKit Go.Proofs.Ytgenfggjonhmgaa.Ml Go.Proofs.Ytgenfggjonhmgaa.PL Go.Proofs.YtgenfggjonhmgaaW.PrintWords Go.Proofs.YtgenfggjonhmgaaW.PrintLast Go.Proofs.YtgenfggjonhmgaaW.PrintMore
variable {w0 W : World} {g : Nat} {s : ByteArray} {i : Int} {v2 v3 : Value} {l : List S28} {m : List S42} {wn : Int}
theorem own_put3 {W : World} {base gm n c : Nat} {inner : List Value} (h : W.ownsRow base 42 3 (.slice (some ⟨gm, 0, none⟩) n c) n inner) (j : Nat) (u : Value) :
    (W.setCell ⟨gm, j, none⟩ u).ownsRow base 42 3 (.slice (some ⟨gm, 0, none⟩) n c) n (inner.set j u) := by
  obtain ⟨h1, h2⟩ := h
  refine ⟨by rw [List.length_set]; exact h1, ?_⟩
  rcases h2 with ⟨h2, _⟩ | ⟨g, cap, cur, he, hg, hh, hn, hm, hs, ht⟩
  · cases h2
  · injection he with e1 e2 e3
    injection e1 with e1
    injection e1 with e1
    subst e1 e3
    refine .inr ⟨gm, c, cur.set! j u, rfl, hg, ?_, hn, hm, by simpa using hs, ?_⟩
    · simpa using blk_set hh j u
    · rw [← ht, Array.set!_eq_setIfInBounds, Array.toList_setIfInBounds, List.take_set]
theorem set42 {W : World} {base gm n c : Nat} {ok : Nat → Prop} {m : List S42} (h : k42.R 42 W base ok (.slice (some ⟨gm, 0, none⟩) n c) m) (hn : n = m.length) (k : Nat) (hk : k < m.length) (x : Int) (q : S42) (hq : m.getD k z42 = q) :
    k42.R 42 (W.setCell ⟨gm, k * 3 + 2, none⟩ (.int .i64 x)) base ok (.slice (some ⟨gm, 0, none⟩) n c) (m.set k ⟨q.f0, q.f1, x⟩) := by
  subst hn
  obtain ⟨h0, inner, hown, hr1, hr2⟩ := h
  refine ⟨h0, inner.set (k * 3 + 2) (.int .i64 x), ?_, ?_, ?_⟩
  · rw [List.length_set]; exact own_put3 hown _ _
  · rw [List.length_set, List.length_set]; exact hr1
  · intro j p hj
    rw [List.drop_set]
    have hsz : k42.sz = 3 := rfl
    rw [hsz] at hr1 hr2 ⊢
    by_cases e : j = k
    · subst e
      rw [List.getElem?_set_self (by exact hk)] at hj
      obtain rfl := Option.some.inj hj
      have hq2 : m[j]? = some q := by rw [← hq, List.getD_eq_getElem?_getD, List.getElem?_eq_getElem hk]; rfl
      have := k42_openM (hr2 j q hq2)
      rw [if_neg (by omega), show j * 3 + 2 - j * 3 = 2 by omega, List.take_set, this]
      exact k42_mkM _ _ _ ⟨q.f0, q.f1, x⟩
    · rw [List.getElem?_set_ne (by omega)] at hj
      have h2 := hr2 j p hj
      have h3 := k42_openM h2
      have : ((if k * 3 + 2 < j * 3 then inner.drop (j * 3) else (inner.drop (j * 3)).set (k * 3 + 2 - j * 3) (.int .i64 x))).take 3 = (inner.drop (j * 3)).take 3 := by
        split
        · rfl
        · rw [List.take_set, List.set_eq_of_length_le]
          rw [List.length_take]; omega
      rw [this, h3]
      exact k42_mkM _ _ _ p
theorem LXv.mode2 (h : LXv w0 W g s i v2 l v3 m wn) (gm c : Nat) (hv : v3 = .slice (some ⟨gm, 0, none⟩) m.length c) (k : Nat) (hk : k < m.length) (x : Int) (q : S42) (hq : m.getD k z42 = q) :
    LXv w0 (W.setCell ⟨gm, k * 3 + 2, none⟩ (.int .i64 x)) g s i v2 l v3 (m.set k ⟨q.f0, q.f1, x⟩) wn := by
  subst hv
  obtain ⟨_, inner, hown, _⟩ := id h.r3
  obtain ⟨cells, hcl⟩ := own_typed hown gm rfl
  have hne : g ≠ gm := by
    rintro rfl
    have := h.b.symm.trans hcl
    injection this with this
    injection this with _ this
    cases this
  have hB := Kd.R_ne h.r3 h.b (by decide)
  have hbm : w0.heap.size ≤ gm := own_base hown gm rfl
  refine ⟨?_, ?_, by have := set42 h.r3 rfl k hk x q hq; exact this, h.hg, below_set h.B hbm⟩
  · exact (Below.heap_setCell W ⟨gm, k * 3 + 2, none⟩ _ g hne).trans h.b
  · exact Kd.R_mono (Kd.R_far (Kd.R_types h.r2 hcl (fun q hq => by rw [e28 q hq]; decide)) (fun k hk => hk.2) _) (fun _ _ => trivial)
theorem LXv.fz (h : LXv w0 W g s i v2 l v3 m wn) (gm c : Nat) (hv : v3 = .slice (some ⟨gm, 0, none⟩) m.length c) (j : Nat) : W.frozen? ⟨gm, j, none⟩ = false := by
  subst hv
  obtain ⟨_, inner, hown, _⟩ := id h.r3
  obtain ⟨cells, hcl⟩ := own_typed hown gm rfl
  exact blk_frozen hcl j
theorem LXv.pop3 (h : LXv w0 W g s i v2 l v3 m wn) (gm c : Nat) (hv : v3 = .slice (some ⟨gm, 0, none⟩) m.length c) (k : Nat) (hk : k ≤ m.length) :
    LXv w0 (W.setCell ⟨g, 3, none⟩ (.slice (some ⟨gm, 0, none⟩) k c)) g s i v2 l (.slice (some ⟨gm, 0, none⟩) k c) (m.take k) wn := by
  subst hv
  exact h.set3 (Kd.R_take h.r3 hk)
theorem hp_at (a p : ByteArray) (b : Bool) (h : Lib.hasPrefix a.data.toList p.data.toList = b) (w : World) : Calls Try.prog 20 #[.string a, .string p] w fun e w' => e = .returned (.bool b) ∧ w' = w := h ▸ Try.strings_HasPrefix a p w
def signP (w0 : World) (g : Nat) (s : ByteArray) (k : Nat) (v2 : Value) (l : List S28) (v3 : Value) (m : List S42) (wn : Int) (o : Option ByteArray) (e : Ending) (w' : World) : Prop :=
  e = .returned (.tuple #[]) ∧ match o with
    | none => LXv w0 w' g s (k : Int) v2 l v3 m (k : Int)
    | some t => ∃ v v', LXv w0 w' g s ((k + t.size : Nat) : Int) v (l ++ [⟨4, t, (k : Int)⟩]) v' (bracesM m t) wn
structure SgR (b : List UInt8) (L : List ByteArray) (o : Option ByteArray) (w0 wq : World) (g : Nat) (s : ByteArray) (k : Nat) (v2 : Value) (l : List S28) (v3 : Value) (m : List S42) (wn : Int) (A : Option Addr) (j : Nat) : Prop where
  le : j ≤ L.length
  fnd : o = (L.drop j).find? (fun t => Lib.hasPrefix b t.data.toList)
  lx : LXv w0 wq g s (k : Int) v2 l v3 m wn
  C : Kd.C Kd.string wq A L.length L
set_option maxRecDepth 100000 in
set_option maxHeartbeats 4000000 in
theorem sign_any (k : Nat) (h : LXv w0 W g s (k : Int) v2 l v3 m wn) (hk : k ≤ s.size) (hs : s.size ≤ 1000000) (hm : 0 < m.length) (hmm : m.length ≤ 1000000) (hl : l.length ≤ 1000000) (b : List UInt8) (hb : (s.extract k s.size).data.toList = b) (o : Option ByteArray) (ho : signAt b = o)
    (hbr : 0 ≤ (topM m).f2 ∧ (topM m).f2 ≤ 1000000) : Calls Try.prog 27 #[.pointer (some ⟨g, 0, none⟩)] W (signP w0 g s k v2 l v3 m wn o) := by
  obtain ⟨L, hL, hLs⟩ : ∃ L, lex_signs.f = some L ∧ L = signL := ⟨signL, rfl, rfl⟩
  have HL := Aside0.mk hL
  have hfo : o = (L.drop 0).find? (fun t => Lib.hasPrefix b t.data.toList) := by rw [← ho, hLs]; rfl
  have hLl : L.length ≤ 23 := by rw [hLs]; decide
  have hLz : ∀ t ∈ L, t.size ≤ 2 := by rw [hLs]; decide
  have HLz := Aside0.mk hLz
  have HFO := Aside0.mk hfo
  have HB := Aside0.mk hb
  have HH := Aside0.mk h
  have hne : L ≠ [] := by rw [hLs]; simp [signL]
  have HNE := Aside0.mk hne
  clear h hL hLs hfo hLz hb ho hne
  go_enter Try.func27, Try.ntmps27
  go_wp2_with (go_at_call 33; refine (lex_signs.calls L _ HL.out).mono ?_; rintro e w1 ⟨vs, rfl, hr, hbel⟩; have HH1 := Aside0.mk (HH.out.below hbel); obtain ⟨As, cs, rfl⟩ := Kd.R_slice hr; have HC := Aside0.mk (Kd.R_reads' hr).2.2; clear hr hbel)
  go_loopw [7] (fun u7 wq => ∃ j : Nat, u7 = .int .i64 (j : Int) ∧ SgR b L o w0 wq g s k v2 l v3 m wn As j) (fun u7 _ => L.length - (intOf u7).toNat)
  case atStart => exact ⟨0, rfl, Nat.zero_le _, HFO.out, HH1.out, HC.out⟩
  case round =>
    clear HH1 HC HH
    obtain ⟨j, rfl, hR⟩ := hrel
    have HR := Aside0.mk hR
    have hj := hR.le
    clear hR
    by_cases hlt : j < L.length
    · have hb1 : decide ((j : Int) < (L.length : Int)) = true := decide_eq_true (by omega)
      obtain ⟨ad, hA, hcj⟩ := Kd.at_string HR.out.C (j : Int) (by omega) (by omega)
      subst hA
      rw [Int.toNat_natCast] at hcj
      obtain ⟨t, ht⟩ : ∃ t, rdOf ByteArray.empty L (j : Int) = t := ⟨_, rfl⟩
      rw [ht] at hcj
      have hLj : L[j]? = some t := by
        rw [← ht]; unfold rdOf
        rw [Int.toNat_natCast, List.getD_eq_getElem?_getD, List.getElem?_eq_getElem hlt]; rfl
      have HLj := Aside0.mk hLj
      have htz : t.size ≤ 2 := HLz.out t (List.mem_of_getElem? hLj)
      have hdr : L.drop j = t :: L.drop (j + 1) := by
        rw [List.drop_eq_getElem_cons hlt]
        rw [List.getElem?_eq_getElem hlt] at hLj
        rw [Option.some.inj hLj]
      have HDR := Aside0.mk hdr
      clear ht hLj hdr
      have hc0 : wr.cell? ⟨g, 0, none⟩ = some (.string s) := (blk_cell HR.out.lx.b 0).trans rfl
      have hc1 : wr.cell? ⟨g, 1, none⟩ = some (.int .i64 (k : Int)) := (blk_cell HR.out.lx.b 1).trans rfl
      have g1 : (k : Int) ≤ (s.size : Int) := by omega
      by_cases hp : Lib.hasPrefix b t.data.toList = true
      · have hp' : Lib.hasPrefix (s.extract k s.size).data.toList t.data.toList = true := by rw [HB.out]; exact hp
        have HP := Aside0.mk hp'
        have hfo : o = some t := by
          rw [HR.out.fnd, HDR.out, List.find?_cons_of_pos]
          exact hp
        have HO := Aside0.mk hfo
        clear hp hp' hfo
        go_upto_region 3 with fail
        go_quiet ((go_at_call 20; exact Calls.quiet_of_same (hp_at _ _ _ HP.out _)))
        have HR2 := Aside0.mk (HR.out.lx.drawn ⟨⟨nq, rfl⟩⟩)
        generalize wr.drewN nq = w2 at *
        clear HR HP HL HLz HFO HB HNE HLj HDR hcj hc0 hc1
        have hc1 : w2.cell? ⟨g, 1, none⟩ = some (.int .i64 (k : Int)) := (blk_cell HR2.out.b 1).trans rfl
        obtain ⟨l5, hl5⟩ : ∃ q, l ++ [(⟨4, t, (k : Int)⟩ : S28)] = q := ⟨_, rfl⟩
        have HPut := Aside0.mk (put_any HR2.out 4 t (k : Int) hl)
        rw [hl5] at HPut
        have HL5 := Aside0.mk hl5
        clear hl5
        go_upto_region 6 with (go_at_call 17; refine HPut.out.mono ?_; rintro e w5 ⟨rfl, v, HH5⟩; have HX5 := Aside0.mk HH5; have hc51 : w5.cell? ⟨g, 1, none⟩ = some (.int .i64 (k : Int)) := (blk_cell HH5.b 1).trans rfl; have hf51 := blk_frozen HH5.b 1; clear HH5)
        have HX6 := Aside0.mk (HX5.out.at_ ((k : Int) + (t.size : Int)))
        generalize w5.setCell ⟨g, 1, none⟩ (.int .i64 ((k : Int) + (t.size : Int))) = w6 at *
        clear HX5 hc51 hf51 hc1
        obtain ⟨gm, c, rfl⟩ := HX6.out.modes hm
        have hc3 : w6.cell? ⟨g, 3, none⟩ = some (.slice (some ⟨gm, 0, none⟩) m.length c) := (blk_cell HX6.out.b 3).trans rfl
        have hcast : ((k + t.size : Nat) : Int) = (k : Int) + (t.size : Int) := by omega
        have HCA := Aside0.mk hcast
        clear hcast
        by_cases hm1 : m.length = 1
        · have hb2 : ((m.length : Int) == 1) = true := by simp [hm1]
          have HM1 := Aside0.mk hm1
          clear hm1
          go_wp2_with fail
          first | go_end0 | ((try simp only [Exit.inBlock, Exit.then]); refine bodyPost_ret (results_none rfl _ _ _) rfl ?_)
          refine ⟨rfl, ?_⟩
          rw [HO.out]
          have E : LXv w0 w6 g s ((k + t.size : Nat) : Int) v (l ++ [⟨4, t, (k : Int)⟩]) (.slice (some ⟨gm, 0, none⟩) m.length c) (bracesM m t) wn := by
            rw [HL5.out, HCA.out]; unfold bracesM; rw [if_pos HM1.out]; exact HX6.out
          exact ⟨v, _, E⟩
        · have hb2 : ((m.length : Int) == 1) = false := by simp; omega
          have HM1 := Aside0.mk hm1
          have hm2 : 1 < m.length := by omega
          clear hm1
          obtain ⟨q, hq⟩ : ∃ q, topM m = q := ⟨_, rfl⟩
          rw [hq] at hbr
          obtain ⟨hbr0, hbr1⟩ := hbr
          have HQ := Aside0.mk hq
          clear hq
          go_upto_region 8 with (go_at_call 14; refine (top_any HX6.out gm c rfl hm hmm).mono ?_; rintro e w7 ⟨rfl, hd⟩; have HX7 := Aside0.mk (HX6.out.drawn hd); clear hd)
          clear HX6 hb2 hc3
          have hc72 : w7.cell? ⟨gm, (m.length - 1) * 3 + 2, none⟩ = some (.int .i64 q.f2) := by
            have := (HX7.out.mode gm c rfl (m.length - 1) (by omega)).2.2
            rw [show m.getD (m.length - 1) z42 = q from HQ.out] at this
            exact this
          have hf72 := HX7.out.fz gm c rfl ((m.length - 1) * 3 + 2)
          by_cases ht1 : t = ⟨#[123]⟩
          · subst ht1
            go_wp2_with fail
            first | go_end0 | ((try simp only [Exit.inBlock, Exit.then]); refine bodyPost_ret (results_none rfl _ _ _) rfl ?_)
            refine ⟨rfl, ?_⟩
            rw [HO.out]
            have E : LXv w0 (w7.setCell ⟨gm, (m.length - 1) * 3 + 2, none⟩ (.int .i64 (q.f2 + 1))) g s ((k + (ByteArray.size ⟨#[123]⟩) : Nat) : Int) v (l ++ [⟨4, ⟨#[123]⟩, (k : Int)⟩]) (.slice (some ⟨gm, 0, none⟩) m.length c) (bracesM m ⟨#[123]⟩) wn := by
              rw [HL5.out, HCA.out]; unfold bracesM; rw [if_neg HM1.out, if_pos rfl, HQ.out]
              exact HX7.out.mode2 gm c rfl (m.length - 1) (by omega) _ q HQ.out
            exact ⟨v, _, E⟩
          · by_cases ht2 : t = ⟨#[125]⟩
            · subst ht2
              by_cases hz : q.f2 = 0
              · have hb7 : (q.f2 == 0) = true := by simp [hz]
                have HZ := Aside0.mk hz
                have hc3 : w7.cell? ⟨g, 3, none⟩ = some (.slice (some ⟨gm, 0, none⟩) m.length c) := (blk_cell HX7.out.b 3).trans rfl
                have hf3 := blk_frozen HX7.out.b 3
                have hmc : m.length ≤ c := by
                  obtain ⟨_, inner, hown, _⟩ := id HX7.out.r3
                  exact own_le hown
                clear hz
                have e1 : IntKind.i64.wrap ((m.length : Int) - 1) = ((m.length - 1 : Nat) : Int) := by rw [show ((m.length : Int) - 1) = ((m.length - 1 : Nat) : Int) by omega]; rw [IntKind.wrap_i64]; omega
                have g3 : 0 ≤ ((m.length - 1 : Nat) : Int) := by omega
                have g4 : ((m.length - 1 : Nat) : Int) ≤ (c : Int) := by omega
                go_wp2_with fail
                go_still_tail 14, (by kernel_rfl)
                have HX8 := Aside0.mk HX7.out.drew
                change wpList _ _ _ _ _ w7.drew
                go_wp2_with fail
                first | go_end0 | ((try simp only [Exit.inBlock, Exit.then]); refine bodyPost_ret (results_none rfl _ _ _) rfl ?_)
                refine ⟨rfl, ?_⟩
                rw [HO.out]
                have E : LXv w0 (w7.drew.setCell ⟨g, 3, none⟩ (.slice (some ⟨gm, 0, none⟩) (m.length - 1) c)) g s ((k + (ByteArray.size ⟨#[125]⟩) : Nat) : Int) v (l ++ [⟨4, ⟨#[125]⟩, (k : Int)⟩]) (.slice (some ⟨gm, 0, none⟩) (m.length - 1) c) (bracesM m ⟨#[125]⟩) wn := by
                  rw [HL5.out, HCA.out]; unfold bracesM; rw [if_neg HM1.out, if_neg (by decide), if_pos rfl, HQ.out, if_pos HZ.out]
                  exact HX8.out.pop3 gm c rfl (m.length - 1) (by omega)
                exact ⟨v, _, E⟩
              · have hb7 : (q.f2 == 0) = false := by simp [hz]
                have HZ := Aside0.mk hz
                have hpos : 0 < q.f2 := by omega
                clear hz
                go_wp2_with fail
                first | go_end0 | ((try simp only [Exit.inBlock, Exit.then]); refine bodyPost_ret (results_none rfl _ _ _) rfl ?_)
                refine ⟨rfl, ?_⟩
                rw [HO.out]
                have E : LXv w0 (w7.setCell ⟨gm, (m.length - 1) * 3 + 2, none⟩ (.int .i64 (q.f2 - 1))) g s ((k + (ByteArray.size ⟨#[125]⟩) : Nat) : Int) v (l ++ [⟨4, ⟨#[125]⟩, (k : Int)⟩]) (.slice (some ⟨gm, 0, none⟩) m.length c) (bracesM m ⟨#[125]⟩) wn := by
                  rw [HL5.out, HCA.out]; unfold bracesM; rw [if_neg HM1.out, if_neg (by decide), if_pos rfl, HQ.out, if_neg HZ.out]
                  exact HX7.out.mode2 gm c rfl (m.length - 1) (by omega) _ q HQ.out
                exact ⟨v, _, E⟩
            · have hs1 : (t.toList == [123]) = false := by
                have : t.toList ≠ [123] := fun h => ht1 (by rw [toList_data] at h; cases t; congr 1; apply Array.ext'; exact h)
                simpa using this
              have hs2 : (t.toList == [125]) = false := by
                have : t.toList ≠ [125] := fun h => ht2 (by rw [toList_data] at h; cases t; congr 1; apply Array.ext'; exact h)
                simpa using this
              have HT := Aside0.mk (And.intro ht1 ht2)
              clear ht1 ht2
              go_wp2_with fail
              first | go_end0 | ((try simp only [Exit.inBlock, Exit.then]); refine bodyPost_ret (results_none rfl _ _ _) rfl ?_)
              refine ⟨rfl, ?_⟩
              rw [HO.out]
              have E : LXv w0 w7 g s ((k + t.size : Nat) : Int) v (l ++ [⟨4, t, (k : Int)⟩]) (.slice (some ⟨gm, 0, none⟩) m.length c) (bracesM m t) wn := by
                rw [HL5.out, HCA.out]; unfold bracesM; rw [if_neg HM1.out, if_neg HT.out.1, if_neg HT.out.2]; exact HX7.out
              exact ⟨v, _, E⟩
      · have hp' : Lib.hasPrefix (s.extract k s.size).data.toList t.data.toList = false := by rw [HB.out]; simpa using hp
        have HP := Aside0.mk hp'
        clear hp hp'
        go_upto_region 3 with fail
        go_quiet ((go_at_call 20; exact Calls.quiet_of_same (hp_at _ _ _ HP.out _)))
        have HR2 := Aside0.mk (HR.out.lx.drawn ⟨⟨nq, rfl⟩⟩)
        have HC2 := Aside0.mk (Kd.C_drewN HR.out.C nq)
        generalize wr.drewN nq = w2 at *
        go_wp2_with fail
        refine ⟨⟨j + 1, by go_num, by omega, ?_, HR2.out, HC2.out⟩, by simp [intOf]; omega⟩
        rw [HR.out.fnd, HDR.out, List.find?_cons_of_neg]
        have := HP.out
        rw [HB.out] at this
        simp [this]
    · have hb1 : decide ((j : Int) < (L.length : Int)) = false := decide_eq_false (by omega)
      have hc1 : wr.cell? ⟨g, 1, none⟩ = some (.int .i64 (k : Int)) := (blk_cell HR.out.lx.b 1).trans rfl
      go_wp2_with (go_at_call 18; refine (fails_any HR.out.lx _).mono ?_; rintro e w5 ⟨rfl, HH4⟩)
      first | go_end0 | ((try simp only [Exit.inBlock, Exit.then]); refine bodyPost_ret (results_none rfl _ _ _) rfl ?_)
      refine ⟨rfl, ?_⟩
      rw [HR.out.fnd, List.drop_eq_nil_of_le (by omega)]
      exact HH4
end Go.Proofs.Ytgenfggjonhmgaa.Lx
