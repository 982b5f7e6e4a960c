/- Plain lemmas for the pure statements: whole numbers that wrap, bits, rows of bytes as numbers. Own work. -/
import Derived.Test.YtfnofjcdaghniaaDoorWMore
namespace Go.Proofs.YtfnofjcdaghniaaDoor.PL
open Go.RowKit Go.Proofs.YtfnofjcdaghniaaDoorW.PrintWords Go.Proofs.YtfnofjcdaghniaaDoorW.PrintLast Go.Proofs.YtfnofjcdaghniaaDoorW.PrintMore

theorem it {c : Prop} [Decidable c] {α : Type} {a b r : α} (h : c) (k : a = r) : (if c then a else b) = r := by rw [if_pos h]; exact k
theorem jf {c : Prop} [Decidable c] {α : Type} {a b r : α} (h : ¬ c) (k : b = r) : (if c then a else b) = r := by rw [if_neg h]; exact k
theorem bd {α β : Type} {g : Option α} {f : α → Option β} {x : α} {r : Option β} (h : g = some x) (k : f x = r) : g.bind f = r := by rw [h]; exact k
theorem w64 {n : Int} (h0 : -9223372036854775808 ≤ n) (h1 : n ≤ 9223372036854775807) : wrap64 n = n := by unfold wrap64; omega
theorem w64n {x : Nat} (h : x < 9223372036854775808) : wrap64 ((x : Nat) : Int) = (x : Int) := w64 (by omega) (by omega)
theorem wu64 {n : Int} (h0 : 0 ≤ n) (h1 : n < 18446744073709551616) : IntKind.u64.wrap n = n := by
  have : IntKind.u64.wrap n = n % 18446744073709551616 := by simp [IntKind.wrap, IntKind.bits, IntKind.signed]
  rw [this]; omega
theorem wu32 {n : Int} (h0 : 0 ≤ n) (h1 : n < 4294967296) : IntKind.u32.wrap n = n := by rw [IntKind.wrap_u32]; omega
theorem wu8 {n : Int} (h0 : 0 ≤ n) (h1 : n < 256) : IntKind.u8.wrap n = n := by rw [IntKind.wrap_u8]; omega
theorem wf_u8 {x : Int} (h : (Lit.int .u8 x).wf = true) : 0 ≤ x ∧ x < 256 := by
  simp [Lit.wf, IntKind.min, IntKind.max, IntKind.signed, IntKind.bits] at h; omega
theorem wf_i64 {x : Int} (h : (Lit.int .i64 x).wf = true) : -9223372036854775808 ≤ x ∧ x ≤ 9223372036854775807 := by
  simp [Lit.wf, IntKind.min, IntKind.max, IntKind.signed, IntKind.bits] at h; omega

theorem bits_or_nat (k : IntKind) (j : Nat) (hj : j ≤ k.bits) (hk : ∀ n : Int, 0 ≤ n → n < 2 ^ j → k.wrap n = n) (a b : Nat) (ha : a < 2 ^ j) (hb : b < 2 ^ j) :
    Go.bits .or k a b = ((a ||| b : Nat) : Int) := (bits_nat k j hj hk a b ha hb).2
theorem or_low (s a c : Nat) (h : a < 2 ^ s) : a ||| c * 2 ^ s = a + c * 2 ^ s := by
  rw [Nat.or_comm, Nat.mul_comm, ← Nat.two_pow_add_eq_or_of_lt h c, Nat.add_comm]
theorem u32_or_low (s a c : Nat) (h : a < 2 ^ s) (hs : a + c * 2 ^ s < 4294967296) : Go.bits .or .u32 (a : Int) ((c * 2 ^ s : Nat) : Int) = ((a + c * 2 ^ s : Nat) : Int) := by
  rw [bits_or_nat .u32 32 (by decide) (fun n h0 h1 => wu32 h0 (by simpa using h1)) _ _ (by show _ < 4294967296; omega) (by show _ < 4294967296; omega), or_low s a c h]
theorem u32_and31 (a : Nat) (h : a < 4294967296) : Go.bits .and .u32 (a : Int) 31 = ((a % 32 : Nat) : Int) := by
  have := bits_mask .u32 32 (by decide) (fun n h0 h1 => wu32 h0 (by simpa using h1)) 5 (by decide) (a : Int) (by omega) (by show _ < (4294967296 : Int); omega)
  rw [show ((31 : Int)) = 2 ^ 5 - 1 from by decide, this]; simp
theorem shl_u32 (c s : Nat) (hs : s ≤ 32) (h : c * 2 ^ s < 4294967296) : shl .u32 (c : Int) (s : Int) = ((c * 2 ^ s : Nat) : Int) := by
  unfold shl
  rw [Int.toNat_natCast, Nat.min_eq_left (show s ≤ IntKind.u32.bits from hs)]
  have e : (c : Int) * 2 ^ s = ((c * 2 ^ s : Nat) : Int) := by simp
  rw [e, wu32 (by omega) (by omega)]

/-- bytes, the lowest first, as a number -/
def V : List Int → Nat
  | [] => 0
  | x :: l => x.toNat + 256 * V l
def B8 (l : List Int) : Prop := ∀ x ∈ l, 0 ≤ x ∧ x < 256
theorem B8.nil : B8 [] := fun x h => by simp at h
theorem B8.tail {x : Int} {l : List Int} (h : B8 (x :: l)) : B8 l := fun y hy => h y (List.mem_cons_of_mem _ hy)
theorem B8.head {x : Int} {l : List Int} (h : B8 (x :: l)) : 0 ≤ x ∧ x < 256 := h x List.mem_cons_self
theorem B8.take {l : List Int} (h : B8 l) (n : Nat) : B8 (l.take n) := fun x hx => h x (List.mem_of_mem_take hx)
theorem B8.drop {l : List Int} (h : B8 l) (n : Nat) : B8 (l.drop n) := fun x hx => h x (List.mem_of_mem_drop hx)
theorem B8.append {l m : List Int} (h : B8 l) (k : B8 m) : B8 (l ++ m) := fun x hx => (List.mem_append.1 hx).elim (h x) (k x)
theorem B8.one {x : Int} (h0 : 0 ≤ x) (h1 : x < 256) : B8 [x] := fun y hy => by simp at hy; subst hy; exact ⟨h0, h1⟩
theorem B8.rep (n : Nat) : B8 (List.replicate n 0) := fun x hx => by have := List.eq_of_mem_replicate hx; subst this; omega
theorem B8.set {l : List Int} (h : B8 l) (i : Nat) {x : Int} (h0 : 0 ≤ x) (h1 : x < 256) : B8 (l.set i x) := fun y hy => by
  rcases List.mem_or_eq_of_mem_set hy with hy | hy
  · exact h y hy
  · subst hy; exact ⟨h0, h1⟩
theorem B8.of_wf {l : List Int} (h : ∀ x ∈ l, (Lit.int .u8 x).wf = true) : B8 l := fun x hx => wf_u8 (h x hx)
theorem B8.getD {l : List Int} (h : B8 l) (i : Nat) : 0 ≤ l.getD i 0 ∧ l.getD i 0 < 256 := by
  by_cases hi : i < l.length
  · rw [List.getD_eq_getElem?_getD, List.getElem?_eq_getElem hi]; exact h _ (List.getElem_mem _)
  · rw [List.getD_eq_getElem?_getD, List.getElem?_eq_none (by omega)]; simp
theorem B8.rd {l : List Int} (h : B8 l) (i : Int) : 0 ≤ rd l i ∧ rd l i < 256 := h.getD _
theorem rd_nat (l : List Int) (i : Nat) : rd l (i : Int) = l.getD i 0 := by simp [rd]

theorem V_append (l m : List Int) : V (l ++ m) = V l + 256 ^ l.length * V m := by
  induction l with
  | nil => simp [V]
  | cons x l ih => simp only [List.cons_append, V, ih, List.length_cons, Nat.pow_succ, Nat.mul_add]; rw [Nat.mul_comm (256 ^ l.length) 256, Nat.mul_assoc]; omega
theorem V_lt {l : List Int} (h : B8 l) : V l < 256 ^ l.length := by
  induction l with
  | nil => simp [V]
  | cons x l ih =>
    have := ih h.tail; have h2 := h.head
    simp only [V, List.length_cons, Nat.pow_succ]; omega
theorem V_inj {l m : List Int} (hl : B8 l) (hm : B8 m) (he : l.length = m.length) (h : V l = V m) : l = m := by
  induction l generalizing m with
  | nil => cases m with
    | nil => rfl
    | cons y m => simp at he
  | cons x l ih => cases m with
    | nil => simp at he
    | cons y m =>
      have a := hl.head; have b := hm.head
      simp only [V] at h
      have h1 : x = y := by omega
      have h2 : V l = V m := by omega
      rw [h1, ih hl.tail hm.tail (by simpa using he) h2]
theorem V_take_drop (l : List Int) (q : Nat) (hq : q ≤ l.length) : V l = V (l.take q) + 256 ^ q * V (l.drop q) := by
  have := V_append (l.take q) (l.drop q)
  rw [List.take_append_drop, List.length_take, Nat.min_eq_left hq] at this
  exact this
theorem V_drop (l : List Int) (h : B8 l) (q : Nat) (hq : q ≤ l.length) : V l / 256 ^ q = V (l.drop q) := by
  rw [V_take_drop l q hq, Nat.add_mul_div_left _ _ (Nat.pow_pos (by decide))]
  have := V_lt (h.take q)
  rw [List.length_take, Nat.min_eq_left hq] at this
  rw [Nat.div_eq_of_lt this, Nat.zero_add]
theorem V_get (l : List Int) (h : B8 l) (q : Nat) (hq : q < l.length) : V l / 256 ^ q % 256 = (l.getD q 0).toNat := by
  rw [V_drop l h q (by omega), List.drop_eq_getElem_cons hq]
  have := h _ (List.getElem_mem hq)
  simp only [V]
  rw [List.getD_eq_getElem?_getD, List.getElem?_eq_getElem hq]
  simp only [Option.getD_some]
  omega
theorem V_take_succ (l : List Int) (q : Nat) (hq : q < l.length) : V (l.take (q + 1)) = V (l.take q) + 256 ^ q * (l.getD q 0).toNat := by
  rw [List.take_succ_eq_append_getElem hq, V_append, List.length_take, Nat.min_eq_left (by omega)]
  rw [List.getD_eq_getElem?_getD, List.getElem?_eq_getElem hq]
  simp [V]
theorem V_rep (n : Nat) : V (List.replicate n 0) = 0 := by
  induction n with
  | zero => rfl
  | succ n ih => simp only [List.replicate_succ, V, ih]; rfl
theorem V_one (x : Nat) : V [(x : Int)] = x := by simp [V]
theorem V_set (l : List Int) (q : Nat) (x : Int) (hq : q < l.length) (h0 : 0 ≤ l.getD q 0) (hx : l.getD q 0 ≤ x) : V (l.set q x) = V l + (x.toNat - (l.getD q 0).toNat) * 256 ^ q := by
  induction l generalizing q with
  | nil => simp at hq
  | cons y l ih => cases q with
    | zero =>
      simp only [List.set_cons_zero, V, List.getD_cons_zero] at *
      omega
    | succ q =>
      simp only [List.set_cons_succ, V, List.getD_cons_succ, List.length_cons] at *
      rw [ih q (by omega) h0 hx, Nat.pow_succ, Nat.mul_add, Nat.mul_comm (256 ^ q) 256, Nat.mul_left_comm]
      omega
theorem u8_or_low (s a : Nat) (hs : s < 8) (h : a < 2 ^ s) : Go.bits .or .u8 (a : Int) (shl .u8 1 (s : Int)) = ((a + 2 ^ s : Nat) : Int) := by
  have hp : 2 ^ s ≤ 2 ^ 7 := Nat.pow_le_pow_right (by decide) (by omega)
  have e : shl .u8 1 (s : Int) = ((1 * 2 ^ s : Nat) : Int) := by
    unfold shl
    rw [Int.toNat_natCast, Nat.min_eq_left (show s ≤ IntKind.u8.bits from by show s ≤ 8; omega)]
    have e2 : (1 : Int) * 2 ^ s = ((1 * 2 ^ s : Nat) : Int) := by simp
    rw [e2, wu8 (by omega) (by omega)]
  rw [e, bits_or_nat .u8 8 (by decide) (fun n h0 h1 => wu8 h0 (by simpa using h1)) _ _ (by show _ < 256; omega) (by show _ < 256; omega), or_low s a 1 h, Nat.one_mul]
theorem i64_and1 (a : Nat) (h : a < 9223372036854775808) : Go.bits .and .i64 (a : Int) 1 = ((a % 2 : Nat) : Int) := by
  have := bits_mask .i64 63 (by decide) (fun n h0 h1 => by
    have h2 : n < 9223372036854775808 := by simpa using h1
    rw [IntKind.wrap_i64]; omega) 1 (by decide) (a : Int) (by omega) (by show _ < (9223372036854775808 : Int); omega)
  rw [show ((1 : Int)) = 2 ^ 1 - 1 from by decide, this]; simp
theorem shr_nat (k : IntKind) (x s : Nat) (hs : s ≤ k.bits) : shr k (x : Int) (s : Int) = ((x / 2 ^ s : Nat) : Int) := by
  unfold shr
  rw [Int.toNat_natCast, Nat.min_eq_left hs]
  simp
theorem size_data (s : ByteArray) : s.data.toList.length = s.size := by rw [Array.length_toList]; rfl
theorem toList_loop (s : ByteArray) : ∀ (d i : Nat) (r : List UInt8), s.size - i = d → ByteArray.toList.loop s i r = r.reverse ++ s.data.toList.drop i := by
  intro d
  induction d with
  | zero =>
    intro i r h
    have hl := size_data s
    rw [ByteArray.toList.loop, if_neg (by omega), List.drop_eq_nil_of_le (by omega), List.append_nil]
  | succ d ih =>
    intro i r h
    have hl := size_data s
    rw [ByteArray.toList.loop, if_pos (by omega), ih (i + 1) _ (by omega), List.drop_eq_getElem_cons (by omega : i < s.data.toList.length)]
    have e : s.get! i = s.data.toList[i]'(by omega) := by
      have hi : i < s.data.size := by have : s.data.size = s.size := rfl; omega
      simp only [ByteArray.get!, Array.getElem_toList]; exact getElem!_pos s.data i hi
    rw [e]; simp
theorem toList_data (s : ByteArray) : s.toList = s.data.toList := by
  have := toList_loop s s.size 0 [] (by omega)
  simpa [ByteArray.toList] using this
theorem str_inj {l m : List Int} (hl : B8 l) (hm : B8 m) (h : (strOfNums l).toList = (strOfNums m).toList) : l = m := by
  rw [toList_data, toList_data, strOfNums_data, strOfNums_data] at h
  induction l generalizing m with
  | nil => cases m with
    | nil => rfl
    | cons y m => simp at h
  | cons x l ih => cases m with
    | nil => simp at h
    | cons y m =>
      simp only [List.map_cons, List.cons.injEq] at h
      have a := hl.head; have b := hm.head
      have h1 : x.toNat = y.toNat := by
        have := congrArg UInt8.toNat h.1
        simpa [UInt8.toNat_ofNat', Nat.mod_eq_of_lt (show x.toNat < 256 by omega), Nat.mod_eq_of_lt (show y.toNat < 256 by omega)] using this
      rw [show x = y from by omega, ih hl.tail hm.tail h.2]
theorem ite_eq {c : Prop} [Decidable c] {α : Type} {a b r : α} (h1 : c → a = r) (h2 : ¬ c → b = r) : (if c then a else b) = r := by
  by_cases h : c
  · rw [if_pos h]; exact h1 h
  · rw [if_neg h]; exact h2 h
end Go.Proofs.YtfnofjcdaghniaaDoor.PL
