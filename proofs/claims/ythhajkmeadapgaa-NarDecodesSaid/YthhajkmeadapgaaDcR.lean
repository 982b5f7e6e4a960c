/- For any tree t (no condition) and any row b of bytes (longer than 20000: nothing is asked): NarBack(t, b) hands back true. Own work. -/
import Derived.Test.YthhajkmeadapgaaDcM
import Derived.Test.YthhajkmeadapgaaN1
namespace Go.Proofs.Ythhajkmeadapgaa.Tree
set_option linter.unusedVariables false
set_option linter.unusedSimpArgs false
open Go.RowKit Go.Proofs.Ythhajkmeadapgaa.PL Go.Proofs.Ythhajkmeadapgaa.Mn Go.Proofs.YthhajkmeadapgaaW.PrintWords Go.Proofs.YthhajkmeadapgaaW.PrintLast Go.Proofs.YthhajkmeadapgaaW.PrintMore
theorem Decode_tr (A : Option Addr) (c : Nat) (b : List Int) (w : World) (hC : (Kd.int .u8).C w A b.length b) (hc : b.length ≤ c) (h8 : B8 b) (hl : b.length ≤ 1073741824) :
    Calls Try.prog 16 #[.slice A b.length c] w fun e w' => ∃ q2 d2 q3 d3 q4 d4, e = .returned (.tuple #[TV (readS b true).1 q2 d2 q3 d3 q4 d4, .int .i64 (readS b true).2.2]) ∧ TR w' (readS b true).1 q2 d2 q3 d3 q4 d4 ∧ GT 65 (readS b true).1 ∧ Below w.heap.size w w' := by
  refine (Decode_any A c b w hC hc h8 hl).mono ?_
  rintro e w2 ⟨cs, rfl, hM, hG, hb⟩
  obtain ⟨v2, v3, v4, hcs, hK2, hK3, hK4⟩ := k26_openM hM
  obtain ⟨q2, d2, rfl⟩ := Kd.R_slice hK2
  obtain ⟨q3, d3, rfl⟩ := Kd.R_slice hK3
  obtain ⟨q4, d4, rfl⟩ := Kd.R_slice hK4
  obtain ⟨cs, rfl⟩ : ∃ l : List Value, cs = l.toArray := ⟨cs.toList, by simp⟩
  simp only [List.toList_toArray] at hcs
  subst hcs
  exact ⟨q2, d2, q3, d3, q4, d4, rfl, ⟨(Kd.R_reads' hK2).2.1, (Kd.R_reads' hK2).2.2, (Kd.R_reads' hK3).2.1, (Kd.R_reads' hK3).2.2, (Kd.R_reads' hK4).2.1, (Kd.R_reads' hK4).2.2⟩, hG, hb⟩
theorem tx_B8 (s : ByteArray) : B8 (tx s) := by rw [tx_txL]; exact txL_B8 (bytesOf_B8 s)
theorem txs_B8 : ∀ ss : List ByteArray, B8 (txs ss) := by
  intro ss
  induction ss with
  | nil => intro x hx; cases hx
  | cons s ss ih => rw [txs_cons]; exact (tx_B8 s).append ih
theorem kidsB_B8 {B : S26 → List Int} (h : ∀ t, B8 (B t)) : ∀ (ks : List S26) (ns : List ByteArray), B8 (kidsB B ns ks) := by
  intro ks
  induction ks with
  | nil => intro ns x hx; rw [kidsB] at hx; cases hx
  | cons k ks ih => intro ns; rw [kidsB, entryB]; exact (((txs_B8 _).append (h k)).append (txs_B8 _)).append (ih _)
theorem nodeB_B8 : ∀ (N : Nat) (t : S26), B8 (nodeB N t) := by
  intro N
  induction N with
  | zero => intro t x hx; rw [nodeB] at hx; cases hx
  | succ N ih =>
    intro t
    rw [nodeB]
    refine ((txs_B8 _).append ?_).append (txs_B8 _)
    split
    · refine ((txs_B8 _).append ?_).append (txs_B8 _)
      split
      · exact txs_B8 _
      · intro x hx; cases hx
    · split
      · exact txs_B8 _
      · exact (txs_B8 _).append (kidsB_B8 ih _ _)
theorem encB_B8 (N : Nat) (t : S26) : B8 (encB N t) := by
  unfold encB allB
  split
  · exact (tx_B8 _).append (nodeB_B8 _ _)
  · intro x hx; cases hx
theorem readS_enc {N : Nat} {t : S26} (hG : GT N t) (hc : (chk N t 1 0).1 = 0) : (readS (encB N t) true).1 = t ∧ (readS (encB N t) true).2.2 = 0 := by
  have h := readS_all (r := []) (last := true) hG hc (fun _ => rfl)
  rw [List.append_nil] at h
  have e : encB N t = tx sMagic ++ nodeB N t := by unfold encB allB; rw [if_pos hc]
  rw [e, h]
  exact ⟨rfl, rfl⟩
theorem enc_readS {b : List Int} (h8 : B8 b) (h : (readS b true).2.2 = 0) : (chk 65 (readS b true).1 1 0).1 = 0 ∧ allB 65 (readS b true).1 = b ∧ encB 65 (readS b true).1 = b := by
  obtain ⟨h1, r, h2, h3, -⟩ := readS_inv h8 h
  have h4 : allB 65 (readS b true).1 = b := by
    rw [h3 rfl, List.append_nil] at h2
    unfold allB
    exact h2.symm
  exact ⟨h1, h4, by unfold encB; rw [if_pos h1]; exact h4⟩
/-- what a walk keeps: the tree's box, the bytes -/
structure Bk (w wr : World) (p : Nat) (o : Obj) (A : Option Addr) (b : List Int) : Prop where
  hp : wr.heap[p]? = some o
  lo : Below w.heap.size w wr
  c : (Kd.int .u8).C wr A b.length b
theorem Bk.step {w wr w2 : World} {p : Nat} {o : Obj} {A : Option Addr} {b : List Int} (h : Bk w wr p o A b) (hb : Below wr.heap.size wr w2) : Bk w w2 p o A b :=
  ⟨(hb.block _ (blk_lt h.hp)).trans h.hp, below_then h.lo h.lo.size hb, Kd.C_below h.c hb⟩
set_option maxRecDepth 20000 in
set_option maxHeartbeats 4000000 in
theorem NarBack_any (N : Nat) (t : S26) (A2 : Option Addr) (c2 : Nat) (A3 : Option Addr) (c3 : Nat) (A4 : Option Addr) (c4 : Nat) (A : Option Addr) (c : Nat) (b : List Int) (w : World) (h : TR w t A2 c2 A3 c3 A4 c4) (hG : GT N t) (hC : (Kd.int .u8).C w A b.length b) (hc : b.length ≤ c) (h8 : B8 b) (hbl : b.length ≤ maxLen) :
    Calls Try.prog 5 #[TV t A2 c2 A3 c3 A4 c4, .slice A b.length c] w fun e w' => e = .returned (.bool true) ∧ Below w.heap.size w w' := by
  have HT := Aside0.mk h
  have HG := Aside0.mk hG
  have HB := Aside0.mk (And.intro hc (And.intro h8 hbl))
  have HD : Aside0 (Bk w (w.alloc (bx t A2 c2 A3 c3 A4 c4)) w.heap.size (bx t A2 c2 A3 c3 A4 c4) A b) := ⟨⟨heap_alloc_new w _, below_alloc (Below.refl _ w) _, Kd.C_below hC (below_alloc (Below.refl _ w) _)⟩⟩
  clear h hG hC hc h8 hbl
  go_enter Try.func5, Try.ntmps5
  go_upto_region 1 with fail
  obtain ⟨w1, hw1⟩ : ∃ x, (w.alloc (bx t A2 c2 A3 c3 A4 c4)) = x := ⟨_, rfl⟩
  rw [hw1] at HD ⊢
  obtain ⟨p, hp⟩ : ∃ x, w.heap.size = x := ⟨_, rfl⟩
  rw [hp] at HD ⊢
  have HP : Aside0 (w.heap.size = p) := ⟨hp⟩
  clear hw1 hp
  obtain ⟨x0, x1, x2, x3, x4⟩ := cells5 HD.out.hp
  go_wp2_with fail
  refine (heavy_any N t A2 c2 A3 c3 A4 c4 w1 (HT.out.below HD.out.lo) HG.out).mono ?_
  rintro e_ w2 ⟨r, rfl, hb2, hr⟩
  have HD2 := Aside0.mk (HD.out.step hb2)
  have HR := Aside0.mk hr
  clear hb2 hr HD x0 x1 x2 x3 x4
  cases r with
  | true =>
    go_wp2_with fail
    exact bodyPost_ret (v := .bool true) (by simp [results, Try.results5, go_sem]) rfl ⟨rfl, HD2.out.lo⟩
  | false =>
  have HL := Aside0.mk (all_le HG.out (HR.out (by first | rfl | trivial)))
  clear HR
  by_cases hlen : 20000 < b.length
  · have hl1 : decide ((b.length : Int) > 20000) = true := by simp; omega
    go_wp2_with fail
    exact bodyPost_ret (v := .bool true) (by simp [results, Try.results5, go_sem]) rfl ⟨rfl, HD2.out.lo⟩
  have hl1 : decide ((b.length : Int) > 20000) = false := by simp; omega
  have HLEN := Aside0.mk hlen
  clear hlen
  obtain ⟨x0, x1, x2, x3, x4⟩ := cells5 HD2.out.hp
  go_wp2_with fail
  refine (Encode_any N t A2 c2 A3 c3 A4 c4 w2 (HT.out.below HD2.out.lo) HG.out (by have := HL.out; omega)).mono ?_
  rintro e_ w4 ⟨Ea, ca, rfl, hR4, hb4⟩
  have HD4 := Aside0.mk (HD2.out.step hb4)
  have HRa := Aside0.mk (And.intro (Kd.R_reads' hR4).2 (encB_B8 N t))
  clear hR4 hb4 HD2 x0 x1 x2 x3 x4 hl1
  obtain ⟨ea, hea⟩ : ∃ x, (chk N t 1 0).1 = x := ⟨_, rfl⟩
  obtain ⟨la, hla⟩ : ∃ x, encB N t = x := ⟨_, rfl⟩
  rw [hea, hla]
  rw [hla] at HRa
  have HEA := Aside0.mk (And.intro hea hla)
  clear hea hla
  by_cases h0 : ea = 0
  · subst h0
    have HX : Aside0 ((readS la true).1 = t ∧ (readS la true).2.2 = 0) := ⟨by rw [← HEA.out.2]; exact readS_enc HG.out HEA.out.1⟩
    have hla : la.length ≤ 1073741824 := by
      rw [← HEA.out.2]
      unfold encB
      rw [if_pos HEA.out.1]
      have := HL.out
      omega
    go_wp2_with fail
    refine (Decode_tr Ea ca la w4 HRa.out.1.2 HRa.out.1.1 HRa.out.2 hla).mono ?_
    rintro e_ w5 ⟨q2, d2, q3, d3, q4, d4, rfl, hT5, hG5, hb5⟩
    rw [HX.out.1] at hT5 hG5
    rw [HX.out.1, HX.out.2]
    have hb6 := below_alloc (Below.refl w5.heap.size w5) (bx t q2 d2 q3 d3 q4 d4)
    have HN6 := Aside0.mk (heap_alloc_new w5 (bx t q2 d2 q3 d3 q4 d4))
    have HT6 := Aside0.mk (And.intro (hT5.below hb6) hG5)
    have HD6 := Aside0.mk ((HD4.out.step hb5).step hb6)
    clear hb5 hT5 hG5 hla HX HD4 HRa hb6
    go_upto_region 6 with fail
    generalize (w5.alloc (bx t q2 d2 q3 d3 q4 d4)) = w6 at *
    obtain ⟨p2, hp2⟩ : ∃ x, w5.heap.size = x := ⟨_, rfl⟩
    rw [hp2] at HN6 ⊢
    clear hp2
    obtain ⟨x0, x1, x2, x3, x4⟩ := cells5 HD6.out.hp
    obtain ⟨y0, y1, y2, y3, y4⟩ := cells5 HN6.out
    go_wp2_with fail
    refine (Equal_any N 65 t t A2 c2 A3 c3 A4 c4 q2 d2 q3 d3 q4 d4 w6 (HT.out.below HD6.out.lo) HT6.out.1 HG.out HT6.out.2).mono ?_
    rintro e w7 ⟨he, hb7⟩
    rw [eqT_true rfl] at he
    subst he
    have HD7 := Aside0.mk (HD6.out.step hb7)
    clear hb7 HD6 x0 x1 x2 x3 x4 y0 y1 y2 y3 y4 HT6 HN6
    go_wp2_with fail
    refine (Decode_tr A c b w7 (HD7.out.c) HB.out.1 HB.out.2.1 (by have := HLEN.out; omega)).mono ?_
    rintro e_ w8 ⟨q2, d2, q3, d3, q4, d4, rfl, hT8, hG8, hb8⟩
    have HINV := Aside0.mk (fun hz => enc_readS HB.out.2.1 hz)
    obtain ⟨v, hv⟩ : ∃ x, (readS b true).1 = x := ⟨_, rfl⟩
    obtain ⟨k, hk⟩ : ∃ x, (readS b true).2.2 = x := ⟨_, rfl⟩
    rw [hv, hk] at HINV ⊢
    rw [hv] at hT8 hG8
    clear hv hk
    have hb9 := below_alloc (Below.refl w8.heap.size w8) (bx v q2 d2 q3 d3 q4 d4)
    have HN9 := Aside0.mk (heap_alloc_new w8 (bx v q2 d2 q3 d3 q4 d4))
    have HT9 := Aside0.mk (And.intro (hT8.below hb9) hG8)
    have HD9 := Aside0.mk ((HD7.out.step hb8).step hb9)
    clear hb8 hT8 hG8 hb9 HD7
    go_upto_region 9 with fail
    generalize (w8.alloc (bx v q2 d2 q3 d3 q4 d4)) = w9 at *
    obtain ⟨p3, hp3⟩ : ∃ x, w8.heap.size = x := ⟨_, rfl⟩
    rw [hp3] at HN9 ⊢
    clear hp3
    by_cases hk0 : k = 0
    · subst hk0
      have HI := Aside0.mk (HINV.out rfl)
      obtain ⟨y0, y1, y2, y3, y4⟩ := cells5 HN9.out
      go_wp2_with fail
      refine (Encode_any 65 v q2 d2 q3 d3 q4 d4 w9 HT9.out.1 HT9.out.2 (by rw [HI.out.2.1]; have := HLEN.out; omega)).mono ?_
      rintro e_ w10 ⟨Eb, cb, rfl, hR10, hb10⟩
      rw [HI.out.1]
      rw [HI.out.2.2] at hR10 ⊢
      have HRb := Aside0.mk (Kd.R_reads' hR10).2
      have HD10 := Aside0.mk (HD9.out.step hb10)
      clear hR10 hb10 y0 y1 y2 y3 y4 HT9 HN9 HD9
      go_wp2_with fail
      refine (same_any b b Eb A cb c w10 HRb.out.2 HRb.out.1 HD10.out.c HB.out.1 (by have := HLEN.out; omega)).mono ?_
      rintro e w11 ⟨he, hb11⟩
      rw [decide_eq_true rfl] at he
      subst he
      have HS := Aside0.mk (HD10.out.step hb11)
      clear hb11 HD10 HRb
      go_wp2_with fail
      refine (known_any w11).mono ?_
      rintro e w12 ⟨rfl, hb12⟩
      have HS := Aside0.mk (HS.out.step hb12)
      clear hb12
      go_wp2_with fail
      exact bodyPost_ret (v := .bool true) (by simp [results, Try.results5, go_sem]) rfl ⟨rfl, HS.out.lo⟩
    · have hkb : (k != 0) = true := by simpa using hk0
      go_wp2_with fail
      refine (known_any w9).mono ?_
      rintro e_ w10 ⟨rfl, hb10⟩
      have HD10 := Aside0.mk (HD9.out.step hb10)
      clear hb10
      go_wp2_with fail
      exact bodyPost_ret (v := .bool true) (by simp [results, Try.results5, go_sem]) rfl ⟨rfl, HD10.out.lo⟩
  · have hb0 : (ea == 0) = false := by simpa using h0
    go_wp2_with fail
    refine (Decode_tr A c b w4 (HD4.out.c) HB.out.1 HB.out.2.1 (by have := HLEN.out; omega)).mono ?_
    rintro e_ w8 ⟨q2, d2, q3, d3, q4, d4, rfl, hT8, hG8, hb8⟩
    have HINV := Aside0.mk (fun hz => enc_readS HB.out.2.1 hz)
    obtain ⟨v, hv⟩ : ∃ x, (readS b true).1 = x := ⟨_, rfl⟩
    obtain ⟨k, hk⟩ : ∃ x, (readS b true).2.2 = x := ⟨_, rfl⟩
    rw [hv, hk] at HINV ⊢
    rw [hv] at hT8 hG8
    clear hv hk
    have hb9 := below_alloc (Below.refl w8.heap.size w8) (bx v q2 d2 q3 d3 q4 d4)
    have HN9 := Aside0.mk (heap_alloc_new w8 (bx v q2 d2 q3 d3 q4 d4))
    have HT9 := Aside0.mk (And.intro (hT8.below hb9) hG8)
    have HD9 := Aside0.mk ((HD4.out.step hb8).step hb9)
    clear hb8 hT8 hG8 hb9 HD4
    go_upto_region 9 with fail
    generalize (w8.alloc (bx v q2 d2 q3 d3 q4 d4)) = w9 at *
    obtain ⟨p3, hp3⟩ : ∃ x, w8.heap.size = x := ⟨_, rfl⟩
    rw [hp3] at HN9 ⊢
    clear hp3
    by_cases hk0 : k = 0
    · subst hk0
      have HI := Aside0.mk (HINV.out rfl)
      obtain ⟨y0, y1, y2, y3, y4⟩ := cells5 HN9.out
      go_wp2_with fail
      refine (Encode_any 65 v q2 d2 q3 d3 q4 d4 w9 HT9.out.1 HT9.out.2 (by rw [HI.out.2.1]; have := HLEN.out; omega)).mono ?_
      rintro e_ w10 ⟨Eb, cb, rfl, hR10, hb10⟩
      rw [HI.out.1]
      rw [HI.out.2.2] at hR10 ⊢
      have HRb := Aside0.mk (Kd.R_reads' hR10).2
      have HD10 := Aside0.mk (HD9.out.step hb10)
      clear hR10 hb10 y0 y1 y2 y3 y4 HT9 HN9 HD9
      go_wp2_with fail
      refine (same_any b b Eb A cb c w10 HRb.out.2 HRb.out.1 HD10.out.c HB.out.1 (by have := HLEN.out; omega)).mono ?_
      rintro e w11 ⟨he, hb11⟩
      rw [decide_eq_true rfl] at he
      subst he
      have HS := Aside0.mk (HD10.out.step hb11)
      clear hb11 HD10 HRb
      go_wp2_with fail
      refine (known_any w11).mono ?_
      rintro e w12 ⟨rfl, hb12⟩
      have HS := Aside0.mk (HS.out.step hb12)
      clear hb12
      go_wp2_with fail
      exact bodyPost_ret (v := .bool true) (by simp [results, Try.results5, go_sem]) rfl ⟨rfl, HS.out.lo⟩
    · have hkb : (k != 0) = true := by simpa using hk0
      go_wp2_with fail
      refine (known_any w9).mono ?_
      rintro e_ w10 ⟨rfl, hb10⟩
      have HD10 := Aside0.mk (HD9.out.step hb10)
      clear hb10
      go_wp2_with fail
      exact bodyPost_ret (v := .bool true) (by simp [results, Try.results5, go_sem]) rfl ⟨rfl, HD10.out.lo⟩
theorem NarBack_row (N : Nat) (t : S26) (A2 : Option Addr) (c2 : Nat) (A3 : Option Addr) (c3 : Nat) (A4 : Option Addr) (c4 : Nat) (A : Option Addr) (c : Nat) (b : List Int) (w : World) (h : TR w t A2 c2 A3 c3 A4 c4) (hG : GT N t)
    (hC : (Kd.int .u8).C w A b.length b) (hc : b.length ≤ c) (hm : b.length ≤ maxLen) (hb : b.length * 1 ≤ 140737488351232) (hw : ∀ x ∈ b, (Lit.int .u8 x).wf = true) :
    Calls Try.prog 5 #[TV t A2 c2 A3 c3 A4 c4, .slice A b.length c] w fun e w' => e = .returned (.bool true) ∧ Below w.heap.size w w' := NarBack_any N t A2 c2 A3 c3 A4 c4 A c b w h hG hC hc (B8.of_wf hw) hm
end Go.Proofs.Ythhajkmeadapgaa.Tree
