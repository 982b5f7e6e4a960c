/- nar: number, lay; a function that takes bytes in. Own work. -/
import Derived.Test.YthhajkmeadapgaaTrJ
import Derived.Test.YthhajkmeadapgaaMn1
namespace Go.Proofs.Ythhajkmeadapgaa.Tree
set_option linter.unusedVariables false
set_option linter.unusedSimpArgs false
open Go.RowKit Go.Proofs.Ythhajkmeadapgaa.PL Go.Proofs.Ythhajkmeadapgaa.Mn Go.Proofs.YthhajkmeadapgaaW.PrintWords Go.Proofs.YthhajkmeadapgaaW.PrintLast Go.Proofs.YthhajkmeadapgaaW.PrintMore
/-- a number in eight bytes -/
def num8 (n : Nat) : List Int := (List.range 8).map fun i => ((n / 256 ^ i % 256 : Nat) : Int)
theorem num8_len (n : Nat) : (num8 n).length = 8 := by simp [num8]
theorem num8_B8 (n : Nat) : B8 (num8 n) := by
  intro x hx
  simp only [num8, List.mem_map] at hx
  obtain ⟨i, _, rfl⟩ := hx
  omega
/-- what fills a text up -/
def pad (n : Nat) : Nat := (8 - n % 8) % 8
def txL (l : List Int) : List Int := num8 l.length ++ l ++ List.replicate (pad l.length) 0
def tx (s : ByteArray) : List Int := num8 s.size ++ bytesOf s ++ List.replicate (pad s.size) 0
theorem tx_txL (s : ByteArray) : tx s = txL (bytesOf s) := by unfold tx txL; rw [bytesOf_length]
theorem bytesOf_B8 (s : ByteArray) : B8 (bytesOf s) := by
  intro x hx
  simp only [bytesOf, List.mem_map] at hx
  obtain ⟨b, _, rfl⟩ := hx
  have := b.toNat_lt
  omega
theorem txL_B8 {l : List Int} (h : B8 l) : B8 (txL l) := ((num8_B8 _).append h).append (B8.rep _)
theorem txL_len (l : List Int) : (txL l).length = 8 + l.length + pad l.length := by simp [txL, num8_len]; omega
theorem tx_len (s : ByteArray) : (tx s).length = 8 + s.size + pad s.size := by rw [tx_txL, txL_len, bytesOf_length]
theorem number_f (n : Nat) (hn : n < 9223372036854775808) (k : Nat) (hk : 8 < k) : nar_number.f k (n : Int) = some (num8 n) := by
  obtain ⟨q, rfl⟩ : ∃ q, k = q + 9 := ⟨k - 9, by omega⟩
  unfold nar_number.f
  refine it (by decide) (bd rfl ?_)
  have e : ∀ i : Nat, i < 8 → shr .i64 (n : Int) (wrap64 (8 * (i : Int))) % 256 = ((n / 256 ^ i % 256 : Nat) : Int) := by
    intro i hi
    have h1 : wrap64 (8 * (i : Int)) = ((8 * i : Nat) : Int) := by rw [w64 (by omega) (by omega)]; omega
    rw [h1, shr_nat .i64 n (8 * i) (by show 8 * i ≤ 64; omega), Nat.pow_mul]
    rfl
  have e0 := e 0 (by omega)
  have e1 := e 1 (by omega)
  have e2 := e 2 (by omega)
  have e3 := e 3 (by omega)
  have e4 := e 4 (by omega)
  have e5 := e 5 (by omega)
  have e6 := e 6 (by omega)
  have e7 := e 7 (by omega)
  simp only [Int.natCast_zero, Int.natCast_one, Int.cast_ofNat_Int] at e0 e1 e2 e3 e4 e5 e6 e7
  have hl : ∀ l : List Int, l.length = 8 → ((l.length : Nat) : Int) = 8 := fun l h => by rw [h]; rfl
  have step : ∀ (k : Nat) (l : List Int) (i : Nat) (hi : i < 8), l.length = 8 → nar_number.l0 (k + 1) (n : Int) l 8 (i : Int) = nar_number.l0 k (n : Int) (l.set i ((n / 256 ^ i % 256 : Nat) : Int)) 8 ((i + 1 : Nat) : Int) := by
    intro k l i hi hll
    simp only [nar_number.l0]
    have c0 : 0 ≤ wrap64 (8 * (i : Int)) := by rw [w64 (by omega) (by omega)]; omega
    refine it (by omega) (it c0 (it (by omega) (it (by omega) ?_)))
    rw [e i hi, Int.toNat_natCast, show wrap64 ((i : Int) + 1) = ((i + 1 : Nat) : Int) from by rw [w64 (by omega) (by omega)]; omega]
  have s8 : ((List.replicate 8 (0 : Int)).length : Int) = 8 := rfl
  rw [s8]
  have z0 := step (q + 8) (List.replicate 8 0) 0 (by omega) rfl
  rw [show ((0 : Nat) : Int) = 0 from rfl] at z0
  rw [z0, step (q + 7) _ 1 (by omega) (by simp), step (q + 6) _ 2 (by omega) (by simp), step (q + 5) _ 3 (by omega) (by simp), step (q + 4) _ 4 (by omega) (by simp), step (q + 3) _ 5 (by omega) (by simp), step (q + 2) _ 6 (by omega) (by simp), step (q + 1) _ 7 (by omega) (by simp)]
  simp only [nar_number.l0]
  refine jf (by omega) ?_
  rfl
theorem number_any (n : Nat) (hn : n < 9223372036854775808) (w : World) :
    Calls Try.prog 64 #[.int .i64 (n : Int)] w fun e w' => ∃ A c, e = .returned (.slice A 8 c) ∧ 8 ≤ c ∧ (Kd.int .u8).C w' A 8 (num8 n) ∧ Below w.heap.size w w' := by
  refine (nar_number.calls 9 (n : Int) (num8 n) w (number_f n hn 9 (by omega))).mono ?_
  rintro e w' ⟨v, rfl, hR, hb⟩
  have hV := Kd.R_V (base' := 0) hR
  obtain ⟨A, c, rfl⟩ := Kd.V_slice hV
  obtain ⟨h1, h2, h3⟩ := Kd.V_reads' hV
  rw [num8_len] at h1 h2 h3 ⊢
  exact ⟨A, c, rfl, h2, h3, hb⟩
theorem and7 (x : Int) : Go.bits .and .i64 x 7 = x % 8 := by
  have h : (BitVec.ofInt 64 x &&& BitVec.ofInt 64 7).toNat = (x % 8).toNat := by
    rw [BitVec.toNat_and, BitVec.toNat_ofInt, show (BitVec.ofInt 64 7).toNat = 2 ^ 3 - 1 from by decide, Nat.and_two_pow_sub_one_eq_mod]
    have : (2 : Int) ^ 64 = 18446744073709551616 := by decide
    omega
  show IntKind.i64.wrap ((BitVec.ofInt 64 x &&& BitVec.ofInt 64 7).toNat : Int) = _
  rw [h, IntKind.wrap_i64]
  omega
/-- a world behind another: of what lay there nothing turned but what S names -/
def Kb (S : Nat → Prop) (w w' : World) : Prop := Below 0 w w' ∧ ∀ k, k < w.heap.size → ¬ S k → w'.heap[k]? = w.heap[k]?
theorem Kb.refl (S : Nat → Prop) (w : World) : Kb S w w := ⟨Below.refl 0 w, fun _ _ _ => rfl⟩
theorem Kb.of_below {S : Nat → Prop} {w w' : World} (h : Below w.heap.size w w') : Kb S w w' := ⟨h.mono (Nat.zero_le _), fun k hk _ => h.block k hk⟩
theorem Kb.then_ {S S2 : Nat → Prop} {w w1 w2 : World} (h : Kb S w w1) (k : Kb S2 w1 w2) (hs : ∀ i, S2 i → S i ∨ w.heap.size ≤ i) : Kb S w w2 :=
  ⟨h.1.trans k.1, fun i hi hn => (k.2 i (Nat.lt_of_lt_of_le hi h.1.size) (fun h2 => (hs i h2).elim hn (fun h3 => by omega))).trans (h.2 i hi hn)⟩
theorem Kb.below {S : Nat → Prop} {w w' : World} (h : Kb S w w') {B : Nat} (hB : B ≤ w.heap.size) (hS : ∀ k, S k → B ≤ k) : Below B w w' :=
  ⟨h.1.os, h.1.tape, h.1.output, h.1.size, fun k hk => h.2 k (by omega) (fun hs => by have := hS k hs; omega)⟩
theorem Kb.blk {S : Nat → Prop} {w w' : World} (h : Kb S w w') {g : Nat} {o : Obj} (hb : w.heap[g]? = some o) (hn : ¬ S g) : w'.heap[g]? = some o := (h.2 g (blk_lt hb) hn).trans hb
/-- a function (of a number, with what it has caught) that takes bytes in: I tells what it holds, and in which blocks -/
structure Puts (F : Nat) (cap : Value) (I : (Nat → Prop) → List Int → World → Prop) : Prop where
  call : ∀ S l x A c w, I S l w → (Kd.int .u8).C w A x.length x → x.length ≤ c → B8 x → l.length + x.length ≤ 140737488355328 →
    Calls Try.prog F #[.slice A x.length c, cap] w fun e w' => e = .returned (.tuple #[]) ∧ ∃ S', I S' (l ++ x) w' ∧ Kb S w w' ∧ (∀ k, S' k → S k ∨ w.heap.size ≤ k)
  run : ∀ args w, (callFunc F args).run Try.prog w = .ok (.enter F args) w
  lt : ∀ S l w, I S l w → ∀ k, S k → k < w.heap.size
  step : ∀ S l w w', I S l w → (∀ k, S k → w'.heap[k]? = w.heap[k]?) → w.heap.size ≤ w'.heap.size → I S l w'
theorem Puts.below {F : Nat} {cap : Value} {I : (Nat → Prop) → List Int → World → Prop} (hP : Puts F cap I) {S : Nat → Prop} {l : List Int} {w w' : World} (h : I S l w) (hb : Below w.heap.size w w') : I S l w' :=
  hP.step S l w w' h (fun k hk => hb.block k (hP.lt S l w h k hk)) hb.size
/-- what a call that takes bytes in tells -/
def Put (I : (Nat → Prop) → List Int → World → Prop) (S : Nat → Prop) (l : List Int) (w : World) (e : Ending) (w' : World) : Prop := e = .returned (.tuple #[]) ∧ ∃ S', I S' l w' ∧ Kb S w w' ∧ (∀ k, S' k → S k ∨ w.heap.size ≤ k)
theorem Puts.call' {F : Nat} {cap : Value} {I : (Nat → Prop) → List Int → World → Prop} (hP : Puts F cap I) {S : Nat → Prop} {l x : List Int} {A : Option Addr} {n c : Nat} {w : World} (hI : I S l w) (hn : x.length = n) (hC : (Kd.int .u8).C w A n x) (hc : n ≤ c) (hx : B8 x) (hl : l.length + n ≤ 140737488355328) :
    Calls Try.prog F #[.slice A n c, cap] w (Put I S (l ++ x) w) := by
  subst hn
  exact hP.call S l x A c w hI hC hc hx hl
set_option maxRecDepth 20000 in
set_option maxHeartbeats 1000000 in
theorem lay_any {F : Nat} {cap : Value} {I : (Nat → Prop) → List Int → World → Prop} (hP : Puts F cap I) (S : Nat → Prop) (l : List Int) (s : ByteArray) (w : World) (hI : I S l w) (hs : s.size ≤ 140737488351232) (hl : l.length + (tx s).length ≤ 140737488355328) :
    Calls Try.prog 44 #[.func (.func F) #[] #[cap], .string s] w (Put I S (l ++ tx s) w) := by
  have HP := Aside0.mk hP
  have HI := Aside0.mk hI
  have HL := Aside0.mk hl
  clear hI hl
  go_enter Try.func44, Try.ntmps44
  go_wp2_with fail
  refine (number_any s.size (by omega) w).mono ?_
  rintro e_ w1 ⟨A1, c1, rfl, hc1, hC1, hb1⟩
  have HB1 := Aside0.mk hb1
  have HI1 := Aside0.mk (HP.out.below HI.out hb1)
  have HC1 := Aside0.mk hC1
  clear hC1 hb1
  go_upto_region 1 with fail
  rw [HP.out.run, Oper.upon_enter]
  refine (HP.out.call' HI1.out (num8_len _) HC1.out hc1 (num8_B8 _) (by have := HL.out; rw [tx_len] at this; omega)).mono ?_
  rintro e_ w2 ⟨rfl, S2, hI2, hk2, hs2⟩
  have HI2 := Aside0.mk hI2
  have HK2 := Aside0.mk ((Kb.of_below HB1.out).then_ hk2 (fun i hi => .inl hi))
  have HS2 : Aside0 (∀ k, S2 k → S k ∨ w.heap.size ≤ k) := ⟨fun k hk => (hs2 k hk).imp id (fun h => by have := HB1.out.size; omega)⟩
  clear hI2 hk2 hs2 HI1 HC1 HB1 hc1 HI
  have hcv := print_bytes (P := Try.prog) 9 22 5 Try.underlying9 Try.underlying22 Try.underlying5 s w2
  have HCb : Aside0 ((Kd.int .u8).C (Lib.bytesWorld w2 5 s) (some ⟨w2.heap.size, 0, none⟩) s.size (bytesOf s)) := ⟨Kd.C_of_reads (d := (0 : Int)) (h1 := fun _ => rfl) (bytes_reads w2 5 s (by omega))⟩
  have HBb := Aside0.mk (bytes_below (Below.refl w2.heap.size w2) (Nat.le_refl _) 5 s)
  have HGc := Aside0.mk (grownCap_ge w2 s.size 0 5)
  have HI3 := Aside0.mk (HP.out.below HI2.out HBb.out)
  generalize grownCap w2 s.size 0 5 = cb at *
  generalize (some (⟨w2.heap.size, 0, none⟩ : Addr)) = Ab at *
  generalize Lib.bytesWorld w2 5 s = w3 at *
  go_upto_region 2 with fail
  rw [HP.out.run, Oper.upon_enter]
  refine (HP.out.call' HI3.out (bytesOf_length s) HCb.out HGc.out (bytesOf_B8 s) (by have := HL.out; rw [tx_len] at this; rw [List.length_append, num8_len]; omega)).mono ?_
  rintro e_ w4 ⟨rfl, S4, hI4, hk4, hs4⟩
  have HI4 := Aside0.mk hI4
  have HK4 := Aside0.mk (HK2.out.then_ ((Kb.of_below HBb.out).then_ hk4 (fun i hi => .inl hi)) HS2.out)
  have HS4 : Aside0 (∀ k, S4 k → S k ∨ w.heap.size ≤ k) := ⟨fun k hk => (hs4 k hk).elim (HS2.out k) (fun h => .inr (by have := HBb.out.size; have := HK2.out.1.size; omega))⟩
  clear hI4 hk4 hs4 HI3 HCb HBb HGc hcv HI2 HK2 HS2
  have hpd : Value.int .i64 (Go.bits .and .i64 (-(s.size : Int)) 7) = .int .i64 ((pad s.size : Nat) : Int) := by rw [and7]; unfold pad; congr 1; omega
  have hp8 : pad s.size < 8 := by unfold pad; omega
  obtain ⟨pd, hpd2⟩ : ∃ p, pad s.size = p := ⟨_, rfl⟩
  rw [hpd2] at hpd hp8
  have HPD := Aside0.mk hpd2
  clear hpd2
  go_upto_region 3 with (refine Kd.R_make (Kd.int .u8) (w0 := w4) w4.heap.size 5 rfl (N := 18) rfl 22 _ _ rfl (pd : Int) rfl rfl Try.underlying22 (.int .u8 0) 1 info5 rfl (by decide) (by omega) 0 (ok := fun _ => True) (okp := fun _ => True) rfl (fun _ hk => hk) trivial (by omega) (by omega) (Below.refl _ _) (Nat.le_refl _) ?_; intro v5 w5 hR5 hb5 hg5 hn5)
  have hV := Kd.R_V (base' := 0) hR5
  obtain ⟨A5, c5, rfl⟩ := Kd.V_slice hV
  obtain ⟨-, h2, h3⟩ := Kd.V_reads' hV
  rw [Int.toNat_natCast, List.length_replicate] at h2 h3
  have HC5 := Aside0.mk h3
  have HI5 := Aside0.mk (HP.out.below HI4.out hb5)
  have HK5 := Aside0.mk (HK4.out.then_ (Kb.of_below (S := fun _ => False) hb5) (fun _ h => h.elim))
  have HSZ : Aside0 (w.heap.size ≤ w5.heap.size) := ⟨HK5.out.1.size⟩
  clear hV hR5 hb5 hg5 hn5 h3
  go_upto_region 3 with fail
  rw [HP.out.run, Oper.upon_enter]
  rw [Int.toNat_natCast, List.length_replicate]
  refine (HP.out.call' HI5.out List.length_replicate HC5.out h2 (B8.rep _) (by have := HL.out; rw [tx_len, HPD.out] at this; rw [List.length_append, List.length_append, num8_len, bytesOf_length]; omega)).mono ?_
  rintro e_ w6 ⟨rfl, S6, hI6, hk6, hs6⟩
  have HI6 : Aside0 (I S6 (l ++ tx s) w6) := ⟨by unfold tx; rw [HPD.out, ← List.append_assoc, ← List.append_assoc]; exact hI6⟩
  have HK6 := Aside0.mk (HK5.out.then_ hk6 HS4.out)
  have HS6 : Aside0 (∀ k, S6 k → S k ∨ w.heap.size ≤ k) := ⟨fun k hk => (hs6 k hk).elim (HS4.out k) (fun h => .inr (by have := HSZ.out; omega))⟩
  clear hI6 hk6 hs6
  go_wp2_with fail
  exact bodyPost_ret (v := .tuple #[]) (by simp [results, Try.results44, go_sem]) rfl ⟨rfl, S6, HI6.out, HK6.out, HS6.out⟩
end Go.Proofs.Ythhajkmeadapgaa.Tree
/- nar: words, node's inner function. Own work. -/
namespace Go.Proofs.Ythhajkmeadapgaa.Tree
set_option linter.unusedVariables false
set_option linter.unusedSimpArgs false
open Go.RowKit Go.Proofs.Ythhajkmeadapgaa.PL Go.Proofs.Ythhajkmeadapgaa.Mn Go.Proofs.YthhajkmeadapgaaW.PrintWords Go.Proofs.YthhajkmeadapgaaW.PrintLast Go.Proofs.YthhajkmeadapgaaW.PrintMore
def txs (ss : List ByteArray) : List Int := (ss.map tx).flatten
theorem txs_nil : txs [] = [] := rfl
theorem txs_cons (s : ByteArray) (ss : List ByteArray) : txs (s :: ss) = tx s ++ txs ss := rfl
theorem txs_append (a b : List ByteArray) : txs (a ++ b) = txs a ++ txs b := by simp [txs]
theorem txs_take_succ {ss : List ByteArray} {k : Nat} (h : k < ss.length) : txs (ss.take (k + 1)) = txs (ss.take k) ++ tx ss[k] := by
  rw [List.take_succ_eq_append_getElem h, txs_append]
  simp [txs]
theorem txs_take_le (ss : List ByteArray) (k : Nat) : (txs (ss.take k)).length ≤ (txs ss).length := by
  have h : txs ss = txs (ss.take k) ++ txs (ss.drop k) := by rw [← txs_append, List.take_append_drop]
  rw [h, List.length_append]
  omega
set_option maxRecDepth 20000 in
set_option maxHeartbeats 1000000 in
theorem words_any {F : Nat} {cap : Value} {I : (Nat → Prop) → List Int → World → Prop} (hP : Puts F cap I) (S : Nat → Prop) (l : List Int) (ss : List ByteArray) (w : World) (p : Nat) (A : Option Addr) (c : Nat) (hI : I S l w) (hp : w.heap[p]? = some (.cells #[.func (.func F) #[] #[cap]] 39 (0, 0))) (hpS : ¬ S p)
    (hC : ∀ W, Kb S w W → Kd.string.C W A ss.length ss) (hss : ∀ s ∈ ss, s.size ≤ 140737488351232) (hn : ss.length ≤ 140737488351232) (hl : l.length + (txs ss).length ≤ 140737488355328) :
    Calls Try.prog 65 #[.slice A ss.length c, .pointer (some ⟨p, 0, none⟩)] w (Put I S (l ++ txs ss) w) := by
  have HP := Aside0.mk hP
  have HI := Aside0.mk hI
  have HL := Aside0.mk hl
  have HC := Aside0.mk hC
  have HB := Aside0.mk hp
  have HSS := Aside0.mk hss
  have hplt := blk_lt hp
  clear hI hl hC hp hss
  go_enter Try.func65, Try.ntmps65
  go_wp2_with fail
  go_loopw [7] (fun v wr => ∃ (k : Nat), v = .int .i64 (k : Int) ∧ k ≤ ss.length ∧ Aside0 (∃ S', I S' (l ++ txs (ss.take k)) wr ∧ Kb S w wr ∧ (∀ i, S' i → S i ∨ w.heap.size ≤ i))) (fun v _ => ss.length - (intOf v).toNat)
  case atStart => exact ⟨0, rfl, Nat.zero_le _, ⟨S, by simpa [txs] using HI.out, Kb.refl S w, fun i hi => .inl hi⟩⟩
  case round =>
    obtain ⟨k, rfl, hk, ⟨S', hI', hk', hs'⟩⟩ := hrel
    have HI' := Aside0.mk hI'
    have HK' := Aside0.mk hk'
    have HS' := Aside0.mk hs'
    clear hI' hk' hs'
    by_cases hlt : k < ss.length
    · obtain ⟨ad, hA, hcs⟩ := Kd.at_string (HC.out wr HK'.out) (k : Int) (by omega) (by omega)
      obtain ⟨s, hs⟩ : ∃ x, rdOf ByteArray.empty ss (k : Int) = x := ⟨_, rfl⟩
      have hse : ss[k] = s := by rw [← hs, rdOf_nat, List.getD_eq_getElem?_getD, List.getElem?_eq_getElem hlt]; rfl
      rw [hs, Int.toNat_natCast] at hcs
      have hsz : s.size ≤ 140737488351232 := hse ▸ HSS.out _ (List.getElem_mem hlt)
      have HSE := Aside0.mk hse
      subst hA
      clear hs hse
      have cellp : wr.cell? ⟨p, 0, none⟩ = some (.func (.func F) #[] #[cap]) := (blk_cell (HK'.out.blk HB.out hpS) 0).trans rfl
      have HB2 : Aside0 (l.length + (txs (ss.take k)).length + (tx s).length ≤ 140737488355328) := ⟨by
        have h1 := txs_take_le ss (k + 1)
        rw [txs_take_succ hlt, HSE.out, List.length_append] at h1
        have := HL.out
        omega⟩
      go_wp2_with fail
      refine (lay_any HP.out S' (l ++ txs (ss.take k)) s wr HI'.out hsz (by rw [List.length_append]; exact HB2.out)).mono ?_
      rintro e_ w3 ⟨rfl, S3, hI3, hk3, hs3⟩
      have HI3 := Aside0.mk hI3
      have HK3 := Aside0.mk (HK'.out.then_ hk3 HS'.out)
      have HS3 : Aside0 (∀ k, S3 k → S k ∨ w.heap.size ≤ k) := ⟨fun k hk => (hs3 k hk).elim (HS'.out k) (fun h => .inr (by have := HK'.out.1.size; omega))⟩
      clear hI3 hk3 hs3
      go_wp2_with fail
      refine ⟨⟨k + 1, by go_num, by omega, ⟨S3, ?_, HK3.out, HS3.out⟩⟩, by simp [intOf]; omega⟩
      rw [txs_take_succ hlt, HSE.out, ← List.append_assoc]
      exact HI3.out
    · have hkk : k = ss.length := by omega
      subst hkk
      go_wp2_with fail
      refine bodyPost_ret (v := .tuple #[]) (by simp [results, Try.results65, go_sem]) rfl ⟨rfl, S', ?_, HK'.out, HS'.out⟩
      have := HI'.out
      rwa [List.take_length] at this
end Go.Proofs.Ythhajkmeadapgaa.Tree
/- nar: a tree's bytes; node. Own work. -/
namespace Go.Proofs.Ythhajkmeadapgaa.Tree
set_option linter.unusedVariables false
set_option linter.unusedSimpArgs false
open Go.RowKit Go.Proofs.Ythhajkmeadapgaa.PL Go.Proofs.Ythhajkmeadapgaa.Mn Go.Proofs.YthhajkmeadapgaaW.PrintWords Go.Proofs.YthhajkmeadapgaaW.PrintLast Go.Proofs.YthhajkmeadapgaaW.PrintMore
abbrev sL : ByteArray := { data := #[40] }
abbrev sR : ByteArray := { data := #[41] }
abbrev sType : ByteArray := { data := #[116, 121, 112, 101] }
abbrev sReg : ByteArray := { data := #[114, 101, 103, 117, 108, 97, 114] }
abbrev sExec : ByteArray := { data := #[101, 120, 101, 99, 117, 116, 97, 98, 108, 101] }
abbrev sEmpty : ByteArray := { data := #[] }
abbrev sCont : ByteArray := { data := #[99, 111, 110, 116, 101, 110, 116, 115] }
abbrev sSym : ByteArray := { data := #[115, 121, 109, 108, 105, 110, 107] }
abbrev sTarget : ByteArray := { data := #[116, 97, 114, 103, 101, 116] }
abbrev sDir : ByteArray := { data := #[100, 105, 114, 101, 99, 116, 111, 114, 121] }
abbrev sEntry : ByteArray := { data := #[101, 110, 116, 114, 121] }
abbrev sName : ByteArray := { data := #[110, 97, 109, 101] }
abbrev sNode : ByteArray := { data := #[110, 111, 100, 101] }
abbrev sMagic : ByteArray := { data := #[110, 105, 120, 45, 97, 114, 99, 104, 105, 118, 101, 45, 49] }
def entryB (s : ByteArray) (b : List Int) : List Int := txs [sEntry, sL, sName, s, sNode] ++ b ++ txs [sR]
def kidsB (f : S26 → List Int) : List ByteArray → List S26 → List Int
  | _, [] => []
  | ns, k :: ks => entryB (ns.headD ByteArray.empty) (f k) ++ kidsB f ns.tail ks
theorem kidsB_take (f : S26 → List Int) : ∀ (ks : List S26) (ns : List ByteArray) (i : Nat) (h : i < ks.length), kidsB f ns (ks.take (i + 1)) = kidsB f ns (ks.take i) ++ entryB (rdOf ByteArray.empty ns (i : Int)) (f ks[i]) := by
  intro ks
  induction ks with
  | nil => intro ns i h; simp at h
  | cons k ks ih =>
    intro ns i h
    cases i with
    | zero => cases ns <;> simp [kidsB, rdOf]
    | succ i =>
      have h' : i < ks.length := by simpa using h
      simp only [List.take_succ_cons, kidsB, List.getElem_cons_succ]
      rw [ih ns.tail i h', List.append_assoc]
      congr 3
      rw [rdOf_nat, rdOf_nat]
      cases ns <;> simp
theorem kidsB_append (f : S26 → List Int) : ∀ (a b : List S26) (ns : List ByteArray), kidsB f ns (a ++ b) = kidsB f ns a ++ kidsB f (ns.drop a.length) b := by
  intro a
  induction a with
  | nil => intro b ns; simp [kidsB]
  | cons k a ih =>
    intro b ns
    simp only [List.cons_append, kidsB, ih, List.length_cons, List.append_assoc]
    congr 3
    cases ns <;> simp
theorem kidsB_take_le (f : S26 → List Int) (ns : List ByteArray) (ks : List S26) (i : Nat) : (kidsB f ns (ks.take i)).length ≤ (kidsB f ns ks).length := by
  have h : kidsB f ns ks = kidsB f ns (ks.take i) ++ kidsB f (ns.drop (ks.take i).length) (ks.drop i) := by rw [← kidsB_append, List.take_append_drop]
  rw [h, List.length_append]
  omega
/-- a node's bytes -/
def nodeB : Nat → S26 → List Int
  | 0, _ => []
  | N + 1, t => txs [sL, sType] ++ (if t.f0 = 1 then txs [sReg] ++ (if t.f1 = true then txs [sExec, sEmpty] else []) ++ txs [sCont, strOfNums t.f2] else if t.f0 = 3 then txs [sSym, sTarget, strOfNums t.f2] else txs [sDir] ++ kidsB (nodeB N) t.f3 t.f4) ++ txs [sR]
/-- a tree that check has let by -/
def Okt : Nat → S26 → Prop
  | 0, _ => False
  | N + 1, t => formE t = 0 ∧ namesOK t.f3 ∧ ∀ u ∈ t.f4, Okt N u
theorem kidsC_ok (f : S26 → Nat → Int × Nat) : ∀ (l : List S26) (n : Nat), (kidsC f l n).1 = 0 → ∀ u ∈ l, ∃ m, (f u m).1 = 0 := by
  intro l
  induction l with
  | nil => intro n _ u hu; cases hu
  | cons a l ih =>
    intro n h u hu
    rw [kidsC] at h
    by_cases h0 : (f a n).1 ≠ 0
    · rw [if_pos h0] at h; exact absurd h h0
    · rw [if_neg h0] at h
      rcases List.mem_cons.1 hu with rfl | hu
      · exact ⟨n, Classical.not_not.1 h0⟩
      · exact ih _ h u hu
theorem chk_ok : ∀ (N : Nat) (t : S26) (deep n : Nat), GT N t → (chk N t deep n).1 = 0 → Okt N t := by
  intro N
  induction N with
  | zero => intro t deep n hG; exact hG.elim
  | succ N ih =>
    intro t deep n hG h
    obtain ⟨-, -, -, -, -, hK⟩ := hG
    rw [chk] at h
    split at h
    · cases h
    · split at h
      · rename_i q; exact absurd h q
      · rename_i q
        split at h
        · cases h
        · rename_i q3
          refine ⟨Classical.not_not.1 q, Classical.not_not.1 q3, fun u hu => ?_⟩
          obtain ⟨m, hm⟩ := kidsC_ok _ _ _ h u hu
          exact ih u _ _ (hK u hu) hm
theorem strs_C {W : World} {g t : Nat} {ss : List ByteArray} (h : W.heap[g]? = some (.cells (ss.map Value.string).toArray t (0, 0))) (hn : ss.length ≤ 9223372036854775807) : Kd.string.C W (some ⟨g, 0, none⟩) ss.length ss := by
  refine ⟨rfl, hn, fun _ => ⟨_, rfl, fun j s hj => ⟨[.string s], rfl, rfl, fun i u hu => ?_⟩⟩⟩
  cases i with
  | zero =>
    simp only [List.getElem?_cons_zero, Option.some.injEq] at hu
    subst hu
    have := blk_cell h j
    rw [show (Addr.add ⟨g, 0, none⟩ (j * Kd.string.sz + 0)) = ⟨g, j, none⟩ from by rw [add_plain]; show (Addr.mk g (j * 1 + 0) none) = _; rw [Nat.mul_one]; rfl]
    rw [this]
    simp [hj]
  | succ i => simp at hu
/-- what node's walk keeps -/
structure ND (F : Nat) (cap : Value) (I : (Nat → Prop) → List Int → World → Prop) (S : Nat → Prop) (w0 w : World) (p q : Nat) (cs : Array Value) (S' : Nat → Prop) (l : List Int) (wr : World) : Prop where
  i : I S' l wr
  k : Kb S w wr
  s : ∀ i, S' i → S i ∨ w.heap.size ≤ i
  hp : wr.heap[p]? = some (.cells #[.func (.func F) #[] #[cap]] 39 (0, 0))
  hq : wr.heap[q]? = some (.cells cs 26 (0, 0))
  np : ¬ S' p
  nq : ¬ S' q
  b : Below w0.heap.size w0 wr
  lo : ∀ i, S' i → w0.heap.size ≤ i
theorem ND.put {F : Nat} {cap : Value} {I : (Nat → Prop) → List Int → World → Prop} {S : Nat → Prop} {w0 w : World} {p q : Nat} {cs : Array Value} {S' S2 : Nat → Prop} {l l2 : List Int} {wr w2 : World}
    (h : ND F cap I S w0 w p q cs S' l wr) (h1 : I S2 l2 w2) (h2 : Kb S' wr w2) (h3 : ∀ k, S2 k → S' k ∨ wr.heap.size ≤ k) : ND F cap I S w0 w p q cs S2 l2 w2 :=
  ⟨h1, h.k.then_ h2 h.s, fun i hi => (h3 i hi).elim (h.s i) (fun g => .inr (by have := h.k.1.size; omega)), h2.blk h.hp h.np, h2.blk h.hq h.nq,
    fun hi => (h3 _ hi).elim h.np (fun g => by have := blk_lt h.hp; omega), fun hi => (h3 _ hi).elim h.nq (fun g => by have := blk_lt h.hq; omega),
    below_weaken h.b (Nat.le_refl _) (h2.below h.b.size h.lo), fun i hi => (h3 i hi).elim (h.lo i) (fun g => by have := h.b.size; omega)⟩
theorem ND.below {F : Nat} {cap : Value} {I : (Nat → Prop) → List Int → World → Prop} (hP : Puts F cap I) {S : Nat → Prop} {w0 w : World} {p q : Nat} {cs : Array Value} {S' : Nat → Prop} {l : List Int} {wr w2 : World}
    (h : ND F cap I S w0 w p q cs S' l wr) (hb : Below wr.heap.size wr w2) : ND F cap I S w0 w p q cs S' l w2 :=
  h.put (hP.below h.i hb) (Kb.of_below hb) (fun k hk => .inl hk)
/-- words, on texts laid in a new row -/
theorem words_lit {F : Nat} {cap : Value} {I : (Nat → Prop) → List Int → World → Prop} (hP : Puts F cap I) {S : Nat → Prop} {w0 w : World} {p q : Nat} {cs : Array Value} {S' : Nat → Prop} {l : List Int} {wr : World} (h : ND F cap I S w0 w p q cs S' l wr)
    (ss : List ByteArray) (t : Nat) (g n c : Nat) (args : Array Value) (hg : wr.heap.size = g) (hn : ss.length = n) (ha : #[.slice (some ⟨g, 0, none⟩) n c, .pointer (some ⟨p, 0, none⟩)] = args) (hss : ∀ s ∈ ss, s.size ≤ 140737488351232) (hn2 : n ≤ 1000) (hl : l.length + (txs ss).length ≤ 140737488355328) {R : Ending → World → Prop}
    (hR : ∀ S2 w2, ND F cap I S w0 w p q cs S2 (l ++ txs ss) w2 → Kb S' wr w2 → R (.returned (.tuple #[])) w2) :
    Calls Try.prog 65 args (wr.alloc (.cells (ss.map Value.string).toArray t)) R := by
  subst hg hn ha
  have hb := below_alloc (Below.refl wr.heap.size wr) (.cells (ss.map Value.string).toArray t)
  have h1 := h.below hP hb
  have hnew := heap_alloc_new wr (.cells (ss.map Value.string).toArray t)
  have hlt := hP.lt _ _ _ h.i
  refine (words_any hP S' l ss _ p (some ⟨wr.heap.size, 0, none⟩) c h1.i h1.hp h1.np (fun W hW => strs_C (hW.blk hnew (fun hs => by have := hlt _ hs; omega)) (by omega)) hss (by omega) hl).mono ?_
  rintro e w2 ⟨rfl, S2, hI2, hk2, hs2⟩
  exact hR S2 w2 (h1.put hI2 hk2 hs2) ((Kb.of_below hb).then_ hk2 (fun i hi => .inl hi))
end Go.Proofs.Ythhajkmeadapgaa.Tree
/- nar: node, walked. Own work. -/
namespace Go.Proofs.Ythhajkmeadapgaa.Tree
set_option linter.unusedVariables false
set_option linter.unusedSimpArgs false
open Go.RowKit Go.Proofs.Ythhajkmeadapgaa.PL Go.Proofs.Ythhajkmeadapgaa.Mn Go.Proofs.YthhajkmeadapgaaW.PrintWords Go.Proofs.YthhajkmeadapgaaW.PrintLast Go.Proofs.YthhajkmeadapgaaW.PrintMore
/-- node's contract for trees of at most so many floors -/
def NK (F : Nat) (cap : Value) (I : (Nat → Prop) → List Int → World → Prop) (w0 : World) (N : Nat) : Prop := ∀ (t : S26) (A2 : Option Addr) (c2 : Nat) (A3 : Option Addr) (c3 : Nat) (A4 : Option Addr) (c4 : Nat) (S : Nat → Prop) (l : List Int) (w : World),
  TR w0 t A2 c2 A3 c3 A4 c4 → GT N t → Okt N t → I S l w → Below w0.heap.size w0 w → (∀ i, S i → w0.heap.size ≤ i) → l.length + (nodeB N t).length ≤ 140737488355328 →
  Calls Try.prog 45 #[.func (.func F) #[] #[cap], TV t A2 c2 A3 c3 A4 c4] w (Put I S (l ++ nodeB N t) w)
set_option maxRecDepth 20000 in
set_option maxHeartbeats 2000000 in
theorem node_step {F : Nat} {cap : Value} {I : (Nat → Prop) → List Int → World → Prop} (hP : Puts F cap I) (w0 : World) (N : Nat) (ih : NK F cap I w0 N) : NK F cap I w0 (N + 1) := by
  intro t A2 c2 A3 c3 A4 c4 S l w h hG hO hI hB hS hl
  have HP := Aside0.mk hP
  have IH := Aside0.mk ih
  clear ih
  obtain ⟨hd1, hd2, hn1, hn2, hk1, hk2⟩ := h
  obtain ⟨hG0, ⟨hG1, hG2, _⟩, ⟨hG3, hG4, hG5⟩, hG6, hG7, hG8⟩ := hG
  obtain ⟨hO1, hO2, hO3⟩ := hO
  have HDT := Aside0.mk hd2
  have HNM := Aside0.mk hn2
  have HKK := Aside0.mk hk2
  have HG5 := Aside0.mk hG5
  have HG8 := Aside0.mk hG8
  have HO1 := Aside0.mk hO1
  have HO3 := Aside0.mk hO3
  have HL := Aside0.mk hl
  have HND : Aside0 (ND F cap I S w0 w w.heap.size (w.heap.size + 1) #[.int .i64 t.f0, .bool t.f1, .slice A2 t.f2.length c2, .slice A3 t.f3.length c3, .slice A4 t.f4.length c4] S l ((w.alloc (.cells #[.func (.func F) #[] #[cap]] 39)).alloc (.cells #[.int .i64 t.f0, .bool t.f1, .slice A2 t.f2.length c2, .slice A3 t.f3.length c3, .slice A4 t.f4.length c4] 26))) := by
    have hb := below_alloc (below_alloc (Below.refl w.heap.size w) (.cells #[.func (.func F) #[] #[cap]] 39)) (.cells #[.int .i64 t.f0, .bool t.f1, .slice A2 t.f2.length c2, .slice A3 t.f3.length c3, .slice A4 t.f4.length c4] 26)
    have hlt := hP.lt _ _ _ hI
    refine ⟨⟨hP.below hI hb, Kb.of_below hb, fun i hi => .inl hi, blk_alloc (heap_alloc_new w _) _, ?_, fun hs => by have := hlt _ hs; omega, fun hs => by have := hlt _ hs; omega, below_weaken hB hB.size hb, hS⟩⟩
    have := heap_alloc_new (w.alloc (.cells #[.func (.func F) #[] #[cap]] 39)) (.cells #[.int .i64 t.f0, .bool t.f1, .slice A2 t.f2.length c2, .slice A3 t.f3.length c3, .slice A4 t.f4.length c4] 26)
    simpa using this
  clear hd2 hn2 hk2 hG5 hG8 hO1 hO2 hO3 hl hI hB hS
  go_enter Try.func45, Try.ntmps45
  go_upto_region 1 with fail
  generalize ((w.alloc (.cells #[.func (.func F) #[] #[cap]] 39)).alloc (.cells #[.int .i64 t.f0, .bool t.f1, .slice A2 t.f2.length c2, .slice A3 t.f3.length c3, .slice A4 t.f4.length c4] 26)) = w1 at *
  generalize w.heap.size + 1 = q at *
  generalize w.heap.size = p at *
  have hw0 : (nodeB (N + 1) t).length = (txs [sL, sType]).length + ((if t.f0 = 1 then txs [sReg] ++ (if t.f1 = true then txs [sExec, sEmpty] else []) ++ txs [sCont, strOfNums t.f2] else if t.f0 = 3 then txs [sSym, sTarget, strOfNums t.f2] else txs [sDir] ++ kidsB (nodeB N) t.f3 t.f4)).length + (txs [sR]).length := by rw [nodeB, List.length_append, List.length_append]
  have HW0 := Aside0.mk hw0
  clear hw0
  go_wp2_with fail
  refine words_lit HP.out HND.out [sL, sType] 9 w1.heap.size 2 2 _ rfl rfl rfl (by decide) (by omega) (by have := HL.out; have := HW0.out; omega) (fun S2 w2 hnd _ => ?_)
  have HND2 := Aside0.mk hnd
  clear hnd HND
  go_upto_region 3 with fail
  have hf := HO1.out
  have hq := HND2.out.hq
  obtain ⟨b0, b1, b2, b3, b4⟩ := cells5 hq
  have hw : (t.f0 = 1 ∧ Aside0 True) ∨ (t.f0 = 3 ∧ Aside0 True) ∨ (t.f0 = 2 ∧ Aside0 (t.f3.length = t.f4.length)) := by
    unfold formE at hf
    by_cases k1 : t.f0 = 1
    · exact .inl ⟨k1, ⟨trivial⟩⟩
    · rw [if_neg k1] at hf
      by_cases k3 : t.f0 = 3
      · exact .inr (.inl ⟨k3, ⟨trivial⟩⟩)
      · rw [if_neg k3] at hf
        by_cases k2 : t.f0 = 2
        · rw [if_pos k2] at hf
          refine .inr (.inr ⟨k2, ⟨?_⟩⟩)
          split at hf
          · cases hf
          · omega
        · rw [if_neg k2] at hf; cases hf
  clear hf hq
  rcases hw with ⟨k1, -⟩ | ⟨k3, -⟩ | ⟨k2, HLN⟩
  · rw [k1] at b0
    rw [if_pos k1] at HW0
    clear b3 b4
    go_wp2_with fail
    refine words_lit HP.out HND2.out [sReg] 9 w2.heap.size 1 1 _ rfl rfl rfl (by decide) (by omega) (by have := HL.out; have := HW0.out; simp only [List.length_append] at *; omega) (fun S3 w3 hnd _ => ?_)
    have HND3 := Aside0.mk hnd
    clear hnd HND2 b0 b1 b2
    obtain ⟨-, b1, b2, -, -⟩ := cells5 HND3.out.hq
    have hcvs : ∀ W, Below w0.heap.size w0 W → (convert 22 9 (.slice A2 t.f2.length c2)).run Try.prog W = .ok (.string (strOfNums t.f2)) W := fun W hW => Kd.C_string Try.underlying22 Try.underlying5 Try.underlying9 (Kd.C_below HDT.out hW)
    have HCV := Aside0.mk hcvs
    have hsz2 : (strOfNums t.f2).size = t.f2.length := by rw [← data_length, strOfNums_data, List.length_map]
    have HSZ2 := Aside0.mk hsz2
    clear hcvs hsz2
    by_cases hx : t.f1 = true
    · rw [hx] at b1
      rw [if_pos hx] at HW0
      go_wp2_with fail
      refine words_lit HP.out HND3.out [sExec, sEmpty] 9 w3.heap.size 2 2 _ rfl rfl rfl (by decide) (by omega) (by have := HL.out; have := HW0.out; simp only [List.length_append] at *; omega) (fun S4 w4 hnd _ => ?_)
      have HND4 := Aside0.mk hnd
      clear hnd HND3 b1 b2
      obtain ⟨-, -, b2, -, -⟩ := cells5 HND4.out.hq
      have hcv := HCV.out w4 HND4.out.b
      obtain ⟨sd, hsd⟩ : ∃ s, strOfNums t.f2 = s := ⟨_, rfl⟩
      rw [hsd] at hcv HSZ2 HW0
      go_wp2_with fail
      refine words_lit HP.out HND4.out [sCont, sd] 9 w4.heap.size 2 2 _ rfl rfl rfl (by intro s hs; simp at hs; rcases hs with rfl | rfl; (· decide); rw [HSZ2.out]; omega) (by omega) (by have := HL.out; have := HW0.out; simp only [List.length_append] at *; omega) (fun S5 w5 hnd _ => ?_)
      have HND5 := Aside0.mk hnd
      clear hnd HND4 b2 hcv
      go_wp2_with fail
      refine words_lit HP.out HND5.out [sR] 9 w5.heap.size 1 1 _ rfl rfl rfl (by decide) (by omega) (by have := HL.out; have := HW0.out; simp only [List.length_append] at *; omega) (fun S9 w9 hnd _ => ?_)
      have HND9 := Aside0.mk hnd
      clear hnd
      have hE : (l ++ txs [sL, sType] ++ txs [sReg] ++ txs [sExec, sEmpty] ++ txs [sCont, sd] ++ txs [sR]) = l ++ nodeB (N + 1) t := by rw [nodeB, if_pos k1, if_pos hx, hsd]; simp only [List.append_assoc, List.nil_append]
      rw [hE] at HND9
      clear hE
      go_wp2_with fail
      exact bodyPost_ret (v := .tuple #[]) (by simp [results, Try.results45, go_sem]) rfl ⟨rfl, S9, HND9.out.i, HND9.out.k, HND9.out.s⟩
    · rw [if_neg hx] at HW0
      have hx' : t.f1 = false := by simpa using hx
      rw [hx'] at b1
      have hcv := HCV.out w3 HND3.out.b
      obtain ⟨sd, hsd⟩ : ∃ s, strOfNums t.f2 = s := ⟨_, rfl⟩
      rw [hsd] at hcv HSZ2 HW0
      go_wp2_with fail
      refine words_lit HP.out HND3.out [sCont, sd] 9 w3.heap.size 2 2 _ rfl rfl rfl (by intro s hs; simp at hs; rcases hs with rfl | rfl; (· decide); rw [HSZ2.out]; omega) (by omega) (by have := HL.out; have := HW0.out; simp only [List.length_append] at *; omega) (fun S5 w5 hnd _ => ?_)
      have HND5 := Aside0.mk hnd
      clear hnd HND3 b1 b2 hcv
      go_wp2_with fail
      refine words_lit HP.out HND5.out [sR] 9 w5.heap.size 1 1 _ rfl rfl rfl (by decide) (by omega) (by have := HL.out; have := HW0.out; simp only [List.length_append] at *; omega) (fun S9 w9 hnd _ => ?_)
      have HND9 := Aside0.mk hnd
      clear hnd
      have hE : (l ++ txs [sL, sType] ++ txs [sReg] ++ txs [sCont, sd] ++ txs [sR]) = l ++ nodeB (N + 1) t := by rw [nodeB, if_pos k1, if_neg hx, hsd]; simp only [List.append_assoc, List.nil_append]
      rw [hE] at HND9
      clear hE
      go_wp2_with fail
      exact bodyPost_ret (v := .tuple #[]) (by simp [results, Try.results45, go_sem]) rfl ⟨rfl, S9, HND9.out.i, HND9.out.k, HND9.out.s⟩
  · rw [k3] at b0
    rw [if_neg (by omega), if_pos k3] at HW0
    have hcvs : ∀ W, Below w0.heap.size w0 W → (convert 22 9 (.slice A2 t.f2.length c2)).run Try.prog W = .ok (.string (strOfNums t.f2)) W := fun W hW => Kd.C_string Try.underlying22 Try.underlying5 Try.underlying9 (Kd.C_below HDT.out hW)
    have hcv := hcvs w2 HND2.out.b
    have hsz2 : (strOfNums t.f2).size = t.f2.length := by rw [← data_length, strOfNums_data, List.length_map]
    have HSZ2 := Aside0.mk hsz2
    clear hcvs hsz2 b1 b3 b4
    obtain ⟨sd, hsd⟩ : ∃ s, strOfNums t.f2 = s := ⟨_, rfl⟩
    rw [hsd] at hcv HSZ2 HW0
    go_wp2_with fail
    refine words_lit HP.out HND2.out [sSym, sTarget, sd] 9 w2.heap.size 3 3 _ rfl rfl rfl (by intro s hs; simp at hs; rcases hs with rfl | rfl | rfl; (· decide); (· decide); rw [HSZ2.out]; omega) (by omega) (by have := HL.out; have := HW0.out; simp only [List.length_append] at *; omega) (fun S5 w5 hnd _ => ?_)
    have HND5 := Aside0.mk hnd
    clear hnd HND2 b2 hcv b0
    go_wp2_with fail
    refine words_lit HP.out HND5.out [sR] 9 w5.heap.size 1 1 _ rfl rfl rfl (by decide) (by omega) (by have := HL.out; have := HW0.out; simp only [List.length_append] at *; omega) (fun S9 w9 hnd _ => ?_)
    have HND9 := Aside0.mk hnd
    clear hnd
    have hE : (l ++ txs [sL, sType] ++ txs [sSym, sTarget, sd] ++ txs [sR]) = l ++ nodeB (N + 1) t := by rw [nodeB, if_neg (show ¬ t.f0 = 1 from by omega), if_pos k3, hsd]; simp only [List.append_assoc, List.nil_append]
    rw [hE] at HND9
    clear hE
    go_wp2_with fail
    exact bodyPost_ret (v := .tuple #[]) (by simp [results, Try.results45, go_sem]) rfl ⟨rfl, S9, HND9.out.i, HND9.out.k, HND9.out.s⟩
  · rw [k2] at b0
    rw [if_neg (by omega), if_neg (by omega)] at HW0
    clear b1 b2 b3 b4
    go_wp2_with fail
    refine words_lit HP.out HND2.out [sDir] 9 w2.heap.size 1 1 _ rfl rfl rfl (by decide) (by omega) (by have := HL.out; have := HW0.out; simp only [List.length_append] at *; omega) (fun S3 w3 hnd _ => ?_)
    have HND3 := Aside0.mk hnd
    clear hnd HND2 b0
    obtain ⟨-, -, -, -, b4⟩ := cells5 HND3.out.hq
    go_wp2_with fail
    clear b4
    go_loopw [19] (fun v wr => ∃ (k : Nat) (S' : Nat → Prop), v = .int .i64 (k : Int) ∧ k ≤ t.f4.length ∧ Aside0 (ND F cap I S w0 w p q #[.int .i64 t.f0, .bool t.f1, .slice A2 t.f2.length c2, .slice A3 t.f3.length c3, .slice A4 t.f4.length c4] S' (l ++ txs [sL, sType] ++ txs [sDir] ++ kidsB (nodeB N) t.f3 (t.f4.take k)) wr)) (fun v _ => t.f4.length - (intOf v).toNat)
    case atStart => exact ⟨0, S3, rfl, Nat.zero_le _, ⟨by simpa [kidsB] using HND3.out⟩⟩
    case round =>
      clear HND3
      obtain ⟨k, S', rfl, hk, HND4⟩ := hrel
      by_cases hlt : k < t.f4.length
      · obtain ⟨ad, B2, d2, B3, d3, B4, d4, hA, e0, e1, e2, e3, e4, r1, r2, r3, r4, r5, r6⟩ := at_T26 HKK.out (k : Int) (by omega) (by omega)
        obtain ⟨u, hu⟩ : ∃ x, rd_T26 t.f4 (k : Int) = x := ⟨_, rfl⟩
        have hue : t.f4[k] = u := by rw [← hu]; unfold rd_T26; rw [Int.toNat_natCast, List.getD_eq_getElem?_getD, List.getElem?_eq_getElem hlt]; rfl
        have HU := Aside0.mk hue
        have HGU : Aside0 (GT N u) := ⟨hue ▸ HG8.out _ (List.getElem_mem hlt)⟩
        have HOU : Aside0 (Okt N u) := ⟨hue ▸ HO3.out _ (List.getElem_mem hlt)⟩
        rw [hu] at e0 e1 e2 e3 e4 r1 r2 r3 r4 r5 r6
        rw [Int.toNat_natCast] at e0 e1 e2 e3 e4
        have f0 := pw_cell_below HND4.out.b e0
        have f1 := pw_cell_below HND4.out.b e1
        have f2 := pw_cell_below HND4.out.b e2
        have f3 := pw_cell_below HND4.out.b e3
        have f4 := pw_cell_below HND4.out.b e4
        have HTR : Aside0 (TR w0 u B2 d2 B3 d3 B4 d4) := ⟨⟨r1, r2, r3, r4, r5, r6⟩⟩
        obtain ⟨ad2, hA2, hcs⟩ := Kd.at_string HNM.out (k : Int) (by omega) (by have := HLN.out; omega)
        obtain ⟨s, hs⟩ : ∃ x, rdOf ByteArray.empty t.f3 (k : Int) = x := ⟨_, rfl⟩
        rw [hs, Int.toNat_natCast] at hcs
        have hlt3 : k < t.f3.length := by have := HLN.out; omega
        have hse : t.f3[k] = s := by rw [← hs, rdOf_nat, List.getD_eq_getElem?_getD, List.getElem?_eq_getElem hlt3]; rfl
        have hsz : s.size ≤ 140737488351232 := hse ▸ HG5.out _ (List.getElem_mem hlt3)
        have HSK := Aside0.mk hs
        have HCS := Aside0.mk hcs
        subst hA hA2
        clear hue hu e0 e1 e2 e3 e4 r1 r2 r3 r4 r5 r6 hs hse hcs
        go_upto_region 8 with fail
        have HKB := Aside0.mk (heap_alloc_new wr (.cells #[.int .i64 u.f0, .bool u.f1, .slice B2 u.f2.length d2, .slice B3 u.f3.length d3, .slice B4 u.f4.length d4] 26))
        have hbw := below_alloc (Below.refl wr.heap.size wr) (.cells #[.int .i64 u.f0, .bool u.f1, .slice B2 u.f2.length d2, .slice B3 u.f3.length d3, .slice B4 u.f4.length d4] 26)
        have HND5 := Aside0.mk (HND4.out.below HP.out hbw)
        have HNR : Aside0 (¬ S' wr.heap.size) := ⟨fun hs => by have := HP.out.lt _ _ _ HND4.out.i _ hs; omega⟩
        generalize (wr.alloc (.cells #[.int .i64 u.f0, .bool u.f1, .slice B2 u.f2.length d2, .slice B3 u.f3.length d3, .slice B4 u.f4.length d4] 26)) = wb at *
        generalize wr.heap.size = rb at *
        clear hbw HND4 f0 f1 f2 f3 f4
        obtain ⟨-, -, -, b3, -⟩ := cells5 HND5.out.hq
        have hcs := pw_cell_below HND5.out.b HCS.out
        have hBN : (l ++ txs [sL, sType] ++ txs [sDir] ++ kidsB (nodeB N) t.f3 (t.f4.take k)).length + (txs [sEntry, sL, sName, s, sNode]).length + (nodeB N u).length + (txs [sR]).length ≤ 140737488355328 := by
          have h1 := kidsB_take_le (nodeB N) t.f3 t.f4 (k + 1)
          rw [kidsB_take _ _ _ _ hlt, HU.out, HSK.out] at h1
          have h2 := HW0.out
          have h3 := HL.out
          unfold entryB at h1
          simp only [List.length_append] at *
          omega
        have HBN := Aside0.mk hBN
        clear hBN
        go_wp2_with fail
        refine words_lit HP.out HND5.out [sEntry, sL, sName, s, sNode] 9 wb.heap.size 5 5 _ rfl rfl rfl (by intro s hs; simp at hs; rcases hs with rfl | rfl | rfl | rfl | rfl; (· decide); (· decide); (· decide); (· exact hsz); decide) (by omega) (by have := HBN.out; omega) (fun S6 w6 hnd hkb => ?_)
        have HND6 := Aside0.mk hnd
        have HKB6 := Aside0.mk (hkb.blk HKB.out HNR.out)
        clear hnd hkb HND5 b3 HKB HNR hcs
        obtain ⟨e0, e1, e2, e3, e4⟩ := cells5 HKB6.out
        have cellp : w6.cell? ⟨p, 0, none⟩ = some (.func (.func F) #[] #[cap]) := (blk_cell HND6.out.hp 0).trans rfl
        go_wp2_with fail
        refine (IH.out u B2 d2 B3 d3 B4 d4 S6 _ w6 HTR.out HGU.out HOU.out HND6.out.i HND6.out.b HND6.out.lo (by have := HBN.out; simp only [List.length_append] at *; omega)).mono ?_
        rintro e_ w7 ⟨rfl, S7, hI7, hk7, hs7⟩
        have HND7 := Aside0.mk (HND6.out.put hI7 hk7 hs7)
        clear hI7 hk7 hs7 HND6 HKB6 e0 e1 e2 e3 e4 cellp
        go_wp2_with fail
        refine words_lit HP.out HND7.out [sR] 9 w7.heap.size 1 1 _ rfl rfl rfl (by decide) (by omega) (by have := HBN.out; simp only [List.length_append] at *; omega) (fun S8 w8 hnd _ => ?_)
        have HND8 := Aside0.mk hnd
        clear hnd HND7
        go_wp2_with fail
        refine ⟨⟨k + 1, S8, by go_num, by omega, ⟨?_⟩⟩, by simp [intOf]; omega⟩
        have h9 := HND8.out
        rw [kidsB_take _ _ _ _ hlt, HU.out, HSK.out]
        unfold entryB
        simp only [List.append_assoc] at h9 ⊢
        exact h9
      · have hkk : k = t.f4.length := by omega
        subst hkk
        rw [List.take_length] at HND4
        go_wp2_with fail
        refine words_lit HP.out HND4.out [sR] 9 wr.heap.size 1 1 _ rfl rfl rfl (by decide) (by omega) (by have := HL.out; have := HW0.out; simp only [List.length_append] at *; omega) (fun S9 w9 hnd _ => ?_)
        have HND9 := Aside0.mk hnd
        clear hnd
        have hE : (l ++ txs [sL, sType] ++ txs [sDir] ++ kidsB (nodeB N) t.f3 t.f4 ++ txs [sR]) = l ++ nodeB (N + 1) t := by rw [nodeB, if_neg (show ¬ t.f0 = 1 from by omega), if_neg (show ¬ t.f0 = 3 from by omega)]; simp only [List.append_assoc, List.nil_append]
        rw [hE] at HND9
        clear hE
        go_wp2_with fail
        exact bodyPost_ret (v := .tuple #[]) (by simp [results, Try.results45, go_sem]) rfl ⟨rfl, S9, HND9.out.i, HND9.out.k, HND9.out.s⟩
theorem node_full {F : Nat} {cap : Value} {I : (Nat → Prop) → List Int → World → Prop} (hP : Puts F cap I) (w0 : World) : ∀ N, NK F cap I w0 N := by
  intro N
  induction N with
  | zero => intro t A2 c2 A3 c3 A4 c4 S l w h hG; exact hG.elim
  | succ N ih => exact node_step hP w0 N ih
end Go.Proofs.Ythhajkmeadapgaa.Tree
