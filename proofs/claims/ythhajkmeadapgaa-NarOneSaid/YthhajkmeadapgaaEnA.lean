/- nar: number, lay; a function that takes bytes in. Own work. -/
import Derived.Test.YthhajkmeadapgaaTrF
import Derived.Test.YthhajkmeadapgaaMn1
namespace Go.Proofs.Ythhajkmeadapgaa.Tree
set_option linter.unusedVariables false
set_option linter.unusedSimpArgs false
open Go.RowKit Go.Proofs.Ythhajkmeadapgaa.PL Go.Proofs.Ythhajkmeadapgaa.Mn Go.Proofs.YthhajkmeadapgaaW.PrintWords Go.Proofs.YthhajkmeadapgaaW.PrintLast Go.Proofs.YthhajkmeadapgaaW.PrintMore
/-- a number in eight bytes -/
def num8 (n : Nat) : List Int := (List.range 8).map fun i => ((n / 256 ^ i % 256 : Nat) : Int)
theorem num8_len (n : Nat) : (num8 n).length = 8 := by simp [num8]
theorem num8_B8 (n : Nat) : B8 (num8 n) := by
  intro x hx
  simp only [num8, List.mem_map] at hx
  obtain ⟨i, _, rfl⟩ := hx
  omega
/-- what fills a text up -/
def pad (n : Nat) : Nat := (8 - n % 8) % 8
def txL (l : List Int) : List Int := num8 l.length ++ l ++ List.replicate (pad l.length) 0
def tx (s : ByteArray) : List Int := num8 s.size ++ bytesOf s ++ List.replicate (pad s.size) 0
theorem tx_txL (s : ByteArray) : tx s = txL (bytesOf s) := by unfold tx txL; rw [bytesOf_length]
theorem bytesOf_B8 (s : ByteArray) : B8 (bytesOf s) := by
  intro x hx
  simp only [bytesOf, List.mem_map] at hx
  obtain ⟨b, _, rfl⟩ := hx
  have := b.toNat_lt
  omega
theorem txL_B8 {l : List Int} (h : B8 l) : B8 (txL l) := ((num8_B8 _).append h).append (B8.rep _)
theorem txL_len (l : List Int) : (txL l).length = 8 + l.length + pad l.length := by simp [txL, num8_len]; omega
theorem tx_len (s : ByteArray) : (tx s).length = 8 + s.size + pad s.size := by rw [tx_txL, txL_len, bytesOf_length]
theorem number_f (n : Nat) (hn : n < 9223372036854775808) (k : Nat) (hk : 8 < k) : nar_number.f k (n : Int) = some (num8 n) := by
  obtain ⟨q, rfl⟩ : ∃ q, k = q + 9 := ⟨k - 9, by omega⟩
  unfold nar_number.f
  refine it (by decide) (bd rfl ?_)
  have e : ∀ i : Nat, i < 8 → shr .i64 (n : Int) (wrap64 (8 * (i : Int))) % 256 = ((n / 256 ^ i % 256 : Nat) : Int) := by
    intro i hi
    have h1 : wrap64 (8 * (i : Int)) = ((8 * i : Nat) : Int) := by rw [w64 (by omega) (by omega)]; omega
    rw [h1, shr_nat .i64 n (8 * i) (by show 8 * i ≤ 64; omega), Nat.pow_mul]
    rfl
  have e0 := e 0 (by omega)
  have e1 := e 1 (by omega)
  have e2 := e 2 (by omega)
  have e3 := e 3 (by omega)
  have e4 := e 4 (by omega)
  have e5 := e 5 (by omega)
  have e6 := e 6 (by omega)
  have e7 := e 7 (by omega)
  simp only [Int.natCast_zero, Int.natCast_one, Int.cast_ofNat_Int] at e0 e1 e2 e3 e4 e5 e6 e7
  have hl : ∀ l : List Int, l.length = 8 → ((l.length : Nat) : Int) = 8 := fun l h => by rw [h]; rfl
  have step : ∀ (k : Nat) (l : List Int) (i : Nat) (hi : i < 8), l.length = 8 → nar_number.l0 (k + 1) (n : Int) l 8 (i : Int) = nar_number.l0 k (n : Int) (l.set i ((n / 256 ^ i % 256 : Nat) : Int)) 8 ((i + 1 : Nat) : Int) := by
    intro k l i hi hll
    simp only [nar_number.l0]
    have c0 : 0 ≤ wrap64 (8 * (i : Int)) := by rw [w64 (by omega) (by omega)]; omega
    refine it (by omega) (it c0 (it (by omega) (it (by omega) ?_)))
    rw [e i hi, Int.toNat_natCast, show wrap64 ((i : Int) + 1) = ((i + 1 : Nat) : Int) from by rw [w64 (by omega) (by omega)]; omega]
  have s8 : ((List.replicate 8 (0 : Int)).length : Int) = 8 := rfl
  rw [s8]
  have z0 := step (q + 8) (List.replicate 8 0) 0 (by omega) rfl
  rw [show ((0 : Nat) : Int) = 0 from rfl] at z0
  rw [z0, step (q + 7) _ 1 (by omega) (by simp), step (q + 6) _ 2 (by omega) (by simp), step (q + 5) _ 3 (by omega) (by simp), step (q + 4) _ 4 (by omega) (by simp), step (q + 3) _ 5 (by omega) (by simp), step (q + 2) _ 6 (by omega) (by simp), step (q + 1) _ 7 (by omega) (by simp)]
  simp only [nar_number.l0]
  refine jf (by omega) ?_
  rfl
theorem number_any (n : Nat) (hn : n < 9223372036854775808) (w : World) :
    Calls Try.prog 64 #[.int .i64 (n : Int)] w fun e w' => ∃ A c, e = .returned (.slice A 8 c) ∧ 8 ≤ c ∧ (Kd.int .u8).C w' A 8 (num8 n) ∧ Below w.heap.size w w' := by
  refine (nar_number.calls 9 (n : Int) (num8 n) w (number_f n hn 9 (by omega))).mono ?_
  rintro e w' ⟨v, rfl, hR, hb⟩
  have hV := Kd.R_V (base' := 0) hR
  obtain ⟨A, c, rfl⟩ := Kd.V_slice hV
  obtain ⟨h1, h2, h3⟩ := Kd.V_reads' hV
  rw [num8_len] at h1 h2 h3 ⊢
  exact ⟨A, c, rfl, h2, h3, hb⟩
theorem and7 (x : Int) : Go.bits .and .i64 x 7 = x % 8 := by
  have h : (BitVec.ofInt 64 x &&& BitVec.ofInt 64 7).toNat = (x % 8).toNat := by
    rw [BitVec.toNat_and, BitVec.toNat_ofInt, show (BitVec.ofInt 64 7).toNat = 2 ^ 3 - 1 from by decide, Nat.and_two_pow_sub_one_eq_mod]
    have : (2 : Int) ^ 64 = 18446744073709551616 := by decide
    omega
  show IntKind.i64.wrap ((BitVec.ofInt 64 x &&& BitVec.ofInt 64 7).toNat : Int) = _
  rw [h, IntKind.wrap_i64]
  omega
/-- a world behind another: of what lay there nothing turned but what S names -/
def Kb (S : Nat → Prop) (w w' : World) : Prop := Below 0 w w' ∧ ∀ k, k < w.heap.size → ¬ S k → w'.heap[k]? = w.heap[k]?
theorem Kb.refl (S : Nat → Prop) (w : World) : Kb S w w := ⟨Below.refl 0 w, fun _ _ _ => rfl⟩
theorem Kb.of_below {S : Nat → Prop} {w w' : World} (h : Below w.heap.size w w') : Kb S w w' := ⟨h.mono (Nat.zero_le _), fun k hk _ => h.block k hk⟩
theorem Kb.then_ {S S2 : Nat → Prop} {w w1 w2 : World} (h : Kb S w w1) (k : Kb S2 w1 w2) (hs : ∀ i, S2 i → S i ∨ w.heap.size ≤ i) : Kb S w w2 :=
  ⟨h.1.trans k.1, fun i hi hn => (k.2 i (Nat.lt_of_lt_of_le hi h.1.size) (fun h2 => (hs i h2).elim hn (fun h3 => by omega))).trans (h.2 i hi hn)⟩
theorem Kb.below {S : Nat → Prop} {w w' : World} (h : Kb S w w') {B : Nat} (hB : B ≤ w.heap.size) (hS : ∀ k, S k → B ≤ k) : Below B w w' :=
  ⟨h.1.os, h.1.tape, h.1.output, h.1.size, fun k hk => h.2 k (by omega) (fun hs => by have := hS k hs; omega)⟩
theorem Kb.blk {S : Nat → Prop} {w w' : World} (h : Kb S w w') {g : Nat} {o : Obj} (hb : w.heap[g]? = some o) (hn : ¬ S g) : w'.heap[g]? = some o := (h.2 g (blk_lt hb) hn).trans hb
/-- a function (of a number, with what it has caught) that takes bytes in: I tells what it holds, and in which blocks -/
structure Puts (F : Nat) (cap : Value) (I : (Nat → Prop) → List Int → World → Prop) : Prop where
  call : ∀ S l x A c w, I S l w → (Kd.int .u8).C w A x.length x → x.length ≤ c → B8 x → l.length + x.length ≤ 140737488355328 →
    Calls Try.prog F #[.slice A x.length c, cap] w fun e w' => e = .returned (.tuple #[]) ∧ ∃ S', I S' (l ++ x) w' ∧ Kb S w w' ∧ (∀ k, S' k → S k ∨ w.heap.size ≤ k)
  run : ∀ args w, (callFunc F args).run Try.prog w = .ok (.enter F args) w
  lt : ∀ S l w, I S l w → ∀ k, S k → k < w.heap.size
  step : ∀ S l w w', I S l w → (∀ k, S k → w'.heap[k]? = w.heap[k]?) → w.heap.size ≤ w'.heap.size → I S l w'
theorem Puts.below {F : Nat} {cap : Value} {I : (Nat → Prop) → List Int → World → Prop} (hP : Puts F cap I) {S : Nat → Prop} {l : List Int} {w w' : World} (h : I S l w) (hb : Below w.heap.size w w') : I S l w' :=
  hP.step S l w w' h (fun k hk => hb.block k (hP.lt S l w h k hk)) hb.size
/-- what a call that takes bytes in tells -/
def Put (I : (Nat → Prop) → List Int → World → Prop) (S : Nat → Prop) (l : List Int) (w : World) (e : Ending) (w' : World) : Prop := e = .returned (.tuple #[]) ∧ ∃ S', I S' l w' ∧ Kb S w w' ∧ (∀ k, S' k → S k ∨ w.heap.size ≤ k)
theorem Puts.call' {F : Nat} {cap : Value} {I : (Nat → Prop) → List Int → World → Prop} (hP : Puts F cap I) {S : Nat → Prop} {l x : List Int} {A : Option Addr} {n c : Nat} {w : World} (hI : I S l w) (hn : x.length = n) (hC : (Kd.int .u8).C w A n x) (hc : n ≤ c) (hx : B8 x) (hl : l.length + n ≤ 140737488355328) :
    Calls Try.prog F #[.slice A n c, cap] w (Put I S (l ++ x) w) := by
  subst hn
  exact hP.call S l x A c w hI hC hc hx hl
set_option maxRecDepth 20000 in
set_option maxHeartbeats 1000000 in
theorem lay_any {F : Nat} {cap : Value} {I : (Nat → Prop) → List Int → World → Prop} (hP : Puts F cap I) (S : Nat → Prop) (l : List Int) (s : ByteArray) (w : World) (hI : I S l w) (hs : s.size ≤ 140737488351232) (hl : l.length + (tx s).length ≤ 140737488355328) :
    Calls Try.prog 44 #[.func (.func F) #[] #[cap], .string s] w (Put I S (l ++ tx s) w) := by
  have HP := Aside0.mk hP
  have HI := Aside0.mk hI
  have HL := Aside0.mk hl
  clear hI hl
  go_enter Try.func44, Try.ntmps44
  go_wp2_with fail
  refine (number_any s.size (by omega) w).mono ?_
  rintro e_ w1 ⟨A1, c1, rfl, hc1, hC1, hb1⟩
  have HB1 := Aside0.mk hb1
  have HI1 := Aside0.mk (HP.out.below HI.out hb1)
  have HC1 := Aside0.mk hC1
  clear hC1 hb1
  go_upto_region 1 with fail
  rw [HP.out.run, Oper.upon_enter]
  refine (HP.out.call' HI1.out (num8_len _) HC1.out hc1 (num8_B8 _) (by have := HL.out; rw [tx_len] at this; omega)).mono ?_
  rintro e_ w2 ⟨rfl, S2, hI2, hk2, hs2⟩
  have HI2 := Aside0.mk hI2
  have HK2 := Aside0.mk ((Kb.of_below HB1.out).then_ hk2 (fun i hi => .inl hi))
  have HS2 : Aside0 (∀ k, S2 k → S k ∨ w.heap.size ≤ k) := ⟨fun k hk => (hs2 k hk).imp id (fun h => by have := HB1.out.size; omega)⟩
  clear hI2 hk2 hs2 HI1 HC1 HB1 hc1 HI
  have hcv := print_bytes (P := Try.prog) 9 22 5 Try.underlying9 Try.underlying22 Try.underlying5 s w2
  have HCb : Aside0 ((Kd.int .u8).C (Lib.bytesWorld w2 5 s) (some ⟨w2.heap.size, 0, none⟩) s.size (bytesOf s)) := ⟨Kd.C_of_reads (d := (0 : Int)) (h1 := fun _ => rfl) (bytes_reads w2 5 s (by omega))⟩
  have HBb := Aside0.mk (bytes_below (Below.refl w2.heap.size w2) (Nat.le_refl _) 5 s)
  have HGc := Aside0.mk (grownCap_ge w2 s.size 0 5)
  have HI3 := Aside0.mk (HP.out.below HI2.out HBb.out)
  generalize grownCap w2 s.size 0 5 = cb at *
  generalize (some (⟨w2.heap.size, 0, none⟩ : Addr)) = Ab at *
  generalize Lib.bytesWorld w2 5 s = w3 at *
  go_upto_region 2 with fail
  rw [HP.out.run, Oper.upon_enter]
  refine (HP.out.call' HI3.out (bytesOf_length s) HCb.out HGc.out (bytesOf_B8 s) (by have := HL.out; rw [tx_len] at this; rw [List.length_append, num8_len]; omega)).mono ?_
  rintro e_ w4 ⟨rfl, S4, hI4, hk4, hs4⟩
  have HI4 := Aside0.mk hI4
  have HK4 := Aside0.mk (HK2.out.then_ ((Kb.of_below HBb.out).then_ hk4 (fun i hi => .inl hi)) HS2.out)
  have HS4 : Aside0 (∀ k, S4 k → S k ∨ w.heap.size ≤ k) := ⟨fun k hk => (hs4 k hk).elim (HS2.out k) (fun h => .inr (by have := HBb.out.size; have := HK2.out.1.size; omega))⟩
  clear hI4 hk4 hs4 HI3 HCb HBb HGc hcv HI2 HK2 HS2
  have hpd : Value.int .i64 (Go.bits .and .i64 (-(s.size : Int)) 7) = .int .i64 ((pad s.size : Nat) : Int) := by rw [and7]; unfold pad; congr 1; omega
  have hp8 : pad s.size < 8 := by unfold pad; omega
  obtain ⟨pd, hpd2⟩ : ∃ p, pad s.size = p := ⟨_, rfl⟩
  rw [hpd2] at hpd hp8
  have HPD := Aside0.mk hpd2
  clear hpd2
  go_upto_region 3 with (refine Kd.R_make (Kd.int .u8) (w0 := w4) w4.heap.size 5 rfl (N := 18) rfl 22 _ _ rfl (pd : Int) rfl rfl Try.underlying22 (.int .u8 0) 1 info5 rfl (by decide) (by omega) 0 (ok := fun _ => True) (okp := fun _ => True) rfl (fun _ hk => hk) trivial (by omega) (by omega) (Below.refl _ _) (Nat.le_refl _) ?_; intro v5 w5 hR5 hb5 hg5 hn5)
  have hV := Kd.R_V (base' := 0) hR5
  obtain ⟨A5, c5, rfl⟩ := Kd.V_slice hV
  obtain ⟨-, h2, h3⟩ := Kd.V_reads' hV
  rw [Int.toNat_natCast, List.length_replicate] at h2 h3
  have HC5 := Aside0.mk h3
  have HI5 := Aside0.mk (HP.out.below HI4.out hb5)
  have HK5 := Aside0.mk (HK4.out.then_ (Kb.of_below (S := fun _ => False) hb5) (fun _ h => h.elim))
  have HSZ : Aside0 (w.heap.size ≤ w5.heap.size) := ⟨HK5.out.1.size⟩
  clear hV hR5 hb5 hg5 hn5 h3
  go_upto_region 3 with fail
  rw [HP.out.run, Oper.upon_enter]
  rw [Int.toNat_natCast, List.length_replicate]
  refine (HP.out.call' HI5.out List.length_replicate HC5.out h2 (B8.rep _) (by have := HL.out; rw [tx_len, HPD.out] at this; rw [List.length_append, List.length_append, num8_len, bytesOf_length]; omega)).mono ?_
  rintro e_ w6 ⟨rfl, S6, hI6, hk6, hs6⟩
  have HI6 : Aside0 (I S6 (l ++ tx s) w6) := ⟨by unfold tx; rw [HPD.out, ← List.append_assoc, ← List.append_assoc]; exact hI6⟩
  have HK6 := Aside0.mk (HK5.out.then_ hk6 HS4.out)
  have HS6 : Aside0 (∀ k, S6 k → S k ∨ w.heap.size ≤ k) := ⟨fun k hk => (hs6 k hk).elim (HS4.out k) (fun h => .inr (by have := HSZ.out; omega))⟩
  clear hI6 hk6 hs6
  go_wp2_with fail
  exact bodyPost_ret (v := .tuple #[]) (by simp [results, Try.results44, go_sem]) rfl ⟨rfl, S6, HI6.out, HK6.out, HS6.out⟩
end Go.Proofs.Ythhajkmeadapgaa.Tree
