/- what known looks at, as plain facts. Own work. -/
import Derived.Test.YtfnofjcdaghniaaDoorFiJ
import Derived.Test.YtfnofjcdaghniaaDoorMt14
import Derived.Lib.SlBytesConst
namespace Go.Proofs.YtfnofjcdaghniaaDoor.Tree
set_option linter.unusedVariables false
set_option linter.unusedSimpArgs false
open Go.RowKit Go.Proofs.YtfnofjcdaghniaaDoor.PL Go.Proofs.YtfnofjcdaghniaaDoor.Mt Go.Proofs.YtfnofjcdaghniaaDoorW.PrintWords Go.Proofs.YtfnofjcdaghniaaDoorW.PrintLast Go.Proofs.YtfnofjcdaghniaaDoorW.PrintMore
def bA : ByteArray := ⟨#[97]⟩
def bB : ByteArray := ⟨#[98]⟩
def bAB : ByteArray := ⟨#[97, 47, 98]⟩
def kxf : S26 := ⟨1, false, [120], [], []⟩
def kkd : S26 := ⟨2, false, [], [bB], [kxf]⟩
def krt : S26 := ⟨2, false, [], [bA], [kkd]⟩
theorem parts_ab : partsS bAB = [bA, bB] := by
  unfold partsS
  rw [if_neg (by decide)]
  decide
theorem isE_a : isE bA = true := by unfold isE; rw [toList_data]; decide
theorem isE_b : isE bB = true := by unfold isE; rw [toList_data]; decide
theorem put_ab : putS [bA, bB] dir0 kxf = (krt, 0) := by
  have h1 : putS [bB] dir0 kxf = (kkd, 0) := putS_ok_f rfl (by decide) rfl
  exact putS_ok_f rfl (by decide) h1
theorem nok1 {b : ByteArray} (h : isE b = true) : namesOK [b] := by
  intro i hi
  have : i = 0 := by simp at hi; exact hi
  subst this
  unfold nOK
  show (isE b && _) = true
  rw [h]; rfl
theorem nok0 : namesOK [] := fun i hi => by simp at hi
theorem chk_xf (N d n : Nat) (hn : n + 1 ≤ 65536) (hd : d ≤ 64) : chk (N + 1) kxf d n = (0, n + 1) := by
  rw [chk, if_neg (by omega), if_neg (by simp [formE, kxf]), if_neg (fun h => h nok0)]; rfl
theorem chk_d0 (N d n : Nat) (hn : n + 1 ≤ 65536) (hd : d ≤ 64) : chk (N + 1) dir0 d n = (0, n + 1) := by
  rw [chk, if_neg (by omega), if_neg (by simp [formE, dir0]), if_neg (fun h => h nok0)]; rfl
theorem chk_kd (N d n : Nat) (hn : n + 2 ≤ 65536) (hd : d + 1 ≤ 64) : chk (N + 2) kkd d n = (0, n + 2) := by
  rw [chk, if_neg (by omega), if_neg (by simp [formE, kkd]), if_neg (fun h => h (nok1 isE_b))]
  show kidsC _ [kxf] (n + 1) = _
  rw [kidsC, chk_xf N (d + 1) (n + 1) (by omega) (by omega)]; rfl
theorem chk_rt (N d n : Nat) (hn : n + 3 ≤ 65536) (hd : d + 2 ≤ 64) : chk (N + 3) krt d n = (0, n + 3) := by
  rw [chk, if_neg (by omega), if_neg (by simp [formE, krt]), if_neg (fun h => h (nok1 isE_a))]
  show kidsC _ [kkd] (n + 1) = _
  rw [kidsC, chk_kd N (d + 1) (n + 1) (by omega) (by omega)]; rfl
theorem chk_z0 : (chk 1 z0 1 0).1 = 3 := by
  rw [chk, if_neg (by omega), if_pos (by simp [formE, z0])]; simp [formE, z0]
theorem GT_xf {N : Nat} : GT (N + 1) kxf := ⟨by decide, ⟨by decide, by decide, fun x hx => by simp [kxf] at hx; subst hx; decide⟩, ⟨by decide, by decide, fun x hx => by simp [kxf] at hx⟩, by decide, by decide, fun x hx => by simp [kxf] at hx⟩
theorem GT_kd {N : Nat} : GT (N + 2) kkd := ⟨by decide, ⟨by decide, by decide, fun x hx => by simp [kkd] at hx⟩, ⟨by decide, by decide, fun x hx => by simp [kkd] at hx; subst hx; decide⟩, by decide, by decide, fun x hx => by simp [kkd] at hx; subst hx; exact GT_xf⟩
theorem GT_rt {N : Nat} : GT (N + 3) krt := ⟨by decide, ⟨by decide, by decide, fun x hx => by simp [krt] at hx⟩, ⟨by decide, by decide, fun x hx => by simp [krt] at hx; subst hx; decide⟩, by decide, by decide, fun x hx => by simp [krt] at hx; subst hx; exact GT_kd⟩
theorem PutS_ab : PutS 1 1 dir0 bAB kxf = (krt, 0) :=
  PutS_ok (by rw [chk_d0 0 1 0 (by omega) (by omega)]) (by rw [chk_xf 0 1 0 (by omega) (by omega)]) (by rw [parts_ab]; simp [isE_a, isE_b]) (by rw [parts_ab]; exact put_ab) (by rw [parts_ab]; show (chk (2 + 3) krt 1 0).1 = 0; rw [chk_rt 2 1 0 (by omega) (by omega)])
theorem und_a : und ⟨#[]⟩ bA = bA := by unfold und; rw [toList_data]; rfl
theorem und_b : und bA bB = bAB := by unfold und; rw [toList_data]; rfl
theorem files_ab : filesS 3 krt ⟨#[]⟩ = [bAB] := by
  rw [filesS, if_neg (by decide)]
  show filesS 2 kkd (und ⟨#[]⟩ bA) ++ [] = _
  rw [und_a, filesS, if_neg (by decide)]
  show (filesS 1 kxf (und bA bB) ++ []) ++ [] = _
  rw [und_b, filesS, if_pos (show kxf.f0 = 1 from rfl)]; rfl
theorem texts_l (l m : List ByteArray) (h : l.length = m.length) (hl : l.length ≤ 1000000) : ∀ (d k : Nat), l.length - k ≤ d → k ≤ l.length → ∀ K, d + 1 ≤ K → pantrylaw4_texts.l0 K l m (k : Int) = some (decide (l.drop k = m.drop k)) := by
  intro d
  induction d with
  | zero =>
    intro k h1 h2 K hK
    obtain ⟨K, rfl⟩ : ∃ q, K = q + 1 := ⟨K - 1, by omega⟩
    have : k = l.length := by omega
    rw [pantrylaw4_texts.l0, if_neg (by omega), List.drop_eq_nil_of_le (by omega), List.drop_eq_nil_of_le (by omega)]
    rfl
  | succ d ih =>
    intro k h1 h2 K hK
    obtain ⟨K, rfl⟩ : ∃ q, K = q + 1 := ⟨K - 1, by omega⟩
    by_cases hlt : k < l.length
    · have hm : k < m.length := by omega
      rw [pantrylaw4_texts.l0, if_pos (by omega), if_pos (by omega), if_pos (by omega), rdB hlt, rdB hm, List.drop_eq_getElem_cons hlt, List.drop_eq_getElem_cons hm]
      by_cases he : l[k].toList = m[k].toList
      · have he2 : l[k] = m[k] := ba_eq.1 he
        rw [if_pos he, nx (by omega), ih (k + 1) (by omega) (by omega) K (by omega)]
        exact congrArg some (decide_eq_decide.2 ⟨fun e => by rw [he2, e], fun e => (List.cons.inj e).2⟩)
      · have he2 : l[k] ≠ m[k] := fun e => he (by rw [e])
        rw [if_neg he]
        exact congrArg some (decide_eq_false (fun e => he2 (List.cons.inj e).1)).symm
    · rw [pantrylaw4_texts.l0, if_neg (by omega), List.drop_eq_nil_of_le (by omega), List.drop_eq_nil_of_le (by omega)]
      rfl
theorem texts_any (A0 : Option Addr) (c0 : Nat) (l : List ByteArray) (A1 : Option Addr) (c1 : Nat) (m : List ByteArray) (w : World) (h0 : Kd.string.C w A0 l.length l) (hc0 : l.length ≤ c0) (h1 : Kd.string.C w A1 m.length m) (hc1 : m.length ≤ c1) (hl : l.length ≤ 1000000) :
    Calls Tryd.prog 24 #[.slice A0 l.length c0, .slice A1 m.length c1] w fun e w' => e = .returned (.bool (decide (l = m))) ∧ Drawn0 w w' := by
  refine pantrylaw4_texts.calls (l.length + 1) A0 c0 l A1 c1 m _ w h0 hc0 h1 hc1 ?_
  unfold pantrylaw4_texts.f
  by_cases hlen : l.length = m.length
  · rw [if_pos (by omega)]
    have := texts_l l m hlen hl l.length 0 (by omega) (by omega) (l.length + 1) (by omega)
    simpa using this
  · rw [if_neg (by omega)]
    congr 1
    have : l ≠ m := fun e => hlen (by rw [e])
    simp [this]
theorem Files_ab : FilesS 3 krt = [bAB] := by
  unfold FilesS
  rw [if_neg (by rw [chk_rt 0 1 0 (by omega) (by omega)]; simp), files_ab]
  simp [sortS, of_toList]
end Go.Proofs.YtfnofjcdaghniaaDoor.Tree
/- known, walked. Own work. -/
namespace Go.Proofs.YtfnofjcdaghniaaDoor.Tree
set_option linter.unusedVariables false
set_option linter.unusedSimpArgs false
open Go.RowKit Go.Proofs.YtfnofjcdaghniaaDoor.PL Go.Proofs.YtfnofjcdaghniaaDoor.Mt Go.Proofs.YtfnofjcdaghniaaDoorW.PrintWords Go.Proofs.YtfnofjcdaghniaaDoorW.PrintLast Go.Proofs.YtfnofjcdaghniaaDoorW.PrintMore
theorem u8_C {W : World} {a : Nat} {x : Int} {fr : Nat × Nat} (h : W.heap[a]? = some (.cells #[.int .u8 x] 5 fr)) : (Kd.int .u8).C W (some ⟨a, 0, none⟩) 1 [x] :=
  ⟨rfl, by decide, fun _ => ⟨_, rfl, fun j q hj => ⟨[.int .u8 q], rfl, rfl, fun i u hu => by
    cases j with
    | zero =>
      simp at hj
      subst hj
      cases i with
      | zero => simp at hu; subst hu; exact (cell_of_row W a 0 _ _ _ h).trans rfl
      | succ i => simp at hu
    | succ j => simp at hj⟩⟩⟩
theorem str_C {W : World} {a : Nat} {x : ByteArray} (h : W.heap[a]? = some (.cells #[.string x] 9 (0, 0))) : Kd.string.C W (some ⟨a, 0, none⟩) 1 [x] :=
  ⟨rfl, by decide, fun _ => ⟨_, rfl, fun j q hj => ⟨[.string q], rfl, rfl, fun i u hu => by
    cases j with
    | zero =>
      simp at hj
      subst hj
      cases i with
      | zero => simp at hu; subst hu; exact (blk_cell h 0).trans rfl
      | succ i => simp at hu
    | succ j => simp at hj⟩⟩⟩
set_option maxRecDepth 20000 in
set_option maxHeartbeats 4000000 in
theorem known_any (w : World) (hg : G0 w) : Calls Tryd.prog 15 #[] w fun e w' => e = .returned (.bool true) ∧ Below w.heap.size w w' := by
  have hb1 := below_alloc (Below.refl w.heap.size w) (.cells #[.int .u8 120] 5 (1, 2))
  have HA := Aside0.mk (heap_alloc_new w (.cells #[.int .u8 120] 5 (1, 2)))
  have HG := Aside0.mk (hg.below hb1)
  have HB := Aside0.mk hb1
  have hcv := Lib.run_convert_bytes_const (P := Tryd.prog) w 22 5 #[.int .u8 120] 1 1 Tryd.underlying22 Tryd.underlying5
  have hsz : (#[Value.int .u8 120] : Array Value).size = 1 := rfl
  rw [hsz] at hcv
  clear hb1 hg hsz
  go_enter Tryd.func15, Tryd.ntmps15
  go_wp2_with fail
  generalize (w.alloc (.cells #[.int .u8 120] 5 (1, 2))) = w1 at *
  have hx : TR w1 kxf (some ⟨w.heap.size, 0, none⟩) 1 none 0 none 0 := ⟨Nat.le_refl _, u8_C HA.out, Nat.le_refl _, Kd.C_nil _ _, Nat.le_refl _, Kd.C_nil _ _⟩
  have HP := Put_any 1 1 dir0 kxf none 0 none 0 none 0 (some ⟨w.heap.size, 0, none⟩) 1 none 0 none 0 bAB w1 (TR_nil w1 2) hx GT_dir0 GT_xf HG.out (by decide)
  rw [PutS_ab] at HP
  refine HP.mono ?_
  clear HP hx HA
  rintro e w2 ⟨A2, c2, A3, c3, A4, c4, rfl, ho, hb⟩
  have HB := Aside0.mk (below_then HB.out HB.out.size hb)
  have HT := Aside0.mk ho.TR
  clear ho hb HG
  have HGT : Aside0 (GT 3 krt) := ⟨GT_rt⟩
  have HF := Aside0.mk Files_ab
  have HC : Aside0 ((chk 3 krt 1 0).1 = 0) := ⟨by rw [chk_rt 0 1 0 (by omega) (by omega)]⟩
  simp only [TV]
  generalize krt = rt at *
  go_upto_region 2 with fail
  have hal := below_alloc (Below.refl w2.heap.size w2) (.cells #[.int .i64 rt.f0, .bool rt.f1, .slice A2 rt.f2.length c2, .slice A3 rt.f3.length c3, .slice A4 rt.f4.length c4] 26)
  have HB := Aside0.mk (below_then HB.out HB.out.size hal)
  have HT := Aside0.mk (HT.out.below hal)
  have HX := Aside0.mk (heap_alloc_new w2 (.cells #[.int .i64 rt.f0, .bool rt.f1, .slice A2 rt.f2.length c2, .slice A3 rt.f3.length c3, .slice A4 rt.f4.length c4] 26))
  clear hal
  generalize (w2.alloc (.cells #[.int .i64 rt.f0, .bool rt.f1, .slice A2 rt.f2.length c2, .slice A3 rt.f3.length c3, .slice A4 rt.f4.length c4] 26)) = w3 at *
  obtain ⟨pb, hpb⟩ : ∃ q, w2.heap.size = q := ⟨_, rfl⟩
  rw [hpb] at HX ⊢
  clear hpb
  obtain ⟨x0, x1, x2, x3, x4⟩ := cells5 HX.out
  go_wp2_with fail
  clear x0 x1 x2 x3 x4
  have H := Files_any 3 rt A2 c2 A3 c3 A4 c4 w3 HT.out HGT.out
  rw [HF.out] at H
  refine H.mono ?_
  clear H
  rintro e w4 ⟨FA, fc, rfl, hfl, hfc, hb⟩
  have HB := Aside0.mk (below_then HB.out HB.out.size hb)
  have HT := Aside0.mk (HT.out.below hb)
  have HX := Aside0.mk ((hb.block _ (blk_lt HX.out)).trans HX.out)
  have HFC := Aside0.mk (And.intro hfc hfl)
  have hal := below_alloc (Below.refl w4.heap.size w4) (.cells #[.string ⟨#[97, 47, 98]⟩] 9)
  have HB5 := Aside0.mk (below_then HB.out HB.out.size hal)
  have HT5 := Aside0.mk (HT.out.below hal)
  have HX5 := Aside0.mk (blk_alloc HX.out (.cells #[.string ⟨#[97, 47, 98]⟩] 9))
  have HFC5 := Aside0.mk (Kd.C_below HFC.out.1 hal)
  have HS5 := Aside0.mk (heap_alloc_new w4 (.cells #[.string ⟨#[97, 47, 98]⟩] 9))
  clear hb hfl hfc hal HB HT HX
  go_wp2_with fail
  generalize (w4.alloc (.cells #[.string ⟨#[97, 47, 98]⟩] 9)) = w5 at *
  refine (texts_any FA fc [bAB] (some ⟨w4.heap.size, 0, none⟩) 1 [bAB] w5 HFC5.out HFC.out.2 (str_C HS5.out) (Nat.le_refl _) (by decide)).mono ?_
  rintro e w6 ⟨rfl, hd⟩
  obtain ⟨dn, rfl⟩ := hd
  have HB6 := Aside0.mk (below_then HB5.out HB5.out.size (pw_below_drewN (Below.refl _ w5) dn))
  have HT6 := Aside0.mk (HT5.out.below (pw_below_drewN (Below.refl _ w5) dn))
  have HX6 := Aside0.mk (blk_drewN HX5.out dn)
  have hdt : decide ([bAB] = [bAB]) = true := by simp
  rw [hdt]
  clear hdt HB5 HT5 HX5 HFC HFC5 HS5
  generalize w5.drewN dn = w7 at *
  obtain ⟨x0, x1, x2, x3, x4⟩ := cells5 HX6.out
  go_wp2_with fail
  clear x0 x1 x2 x3 x4
  refine (Check_any 3 rt A2 c2 A3 c3 A4 c4 w7 HT6.out HGT.out).mono ?_
  rintro e w8 ⟨rfl, hb⟩
  rw [HC.out]
  have HB8 := Aside0.mk (below_then HB6.out HB6.out.size hb)
  clear hb HB6 HT6 HX6
  go_wp2_with fail
  refine (Check_any 1 z0 none 0 none 0 none 0 w8 (TR_nil w8 0) GT_z0).mono ?_
  rintro e w9 ⟨rfl, hb⟩
  rw [chk_z0]
  have HB9 := Aside0.mk (below_then HB8.out HB8.out.size hb)
  clear hb HB8
  go_wp2_with fail
  exact bodyPost_ret (v := .bool true) (by simp [results, Tryd.results15, go_sem]) rfl ⟨rfl, HB9.out⟩
end Go.Proofs.YtfnofjcdaghniaaDoor.Tree
