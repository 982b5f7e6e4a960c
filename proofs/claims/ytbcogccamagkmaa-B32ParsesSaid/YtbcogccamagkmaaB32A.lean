/- b32: the digits of bytes: what the text's loop comes to. Own work. -/
import Derived.Test.YtbcogccamagkmaaMb1
import Derived.Test.YtbcogccamagkmaaPL
namespace Go.Proofs.Ytbcogccamagkmaa.Pure
set_option linter.unusedVariables false
open Go.RowKit Go.Proofs.Ytbcogccamagkmaa.Mb Go.Proofs.Ytbcogccamagkmaa.PL Go.Proofs.YtbcogccamagkmaaW.PrintWords Go.Proofs.YtbcogccamagkmaaW.PrintLast Go.Proofs.YtbcogccamagkmaaW.PrintMore

/-- the digit's letter -/
def DG (x : Int) : Int := bt (⟨#[48, 49, 50, 51, 52, 53, 54, 55, 56, 57, 97, 98, 99, 100, 102, 103, 104, 105, 106, 107, 108, 109, 110, 112, 113, 114, 115, 118, 119, 120, 121, 122]⟩ : ByteArray) x
def dig (N i : Nat) : Nat := N / 32 ^ i % 32
theorem dig_lt (N i : Nat) : dig N i < 32 := Nat.mod_lt _ (by decide)
/-- the first n digits' letters, the highest first -/
def digits (N n : Nat) : List Int := (List.range n).reverse.map fun j => DG ((dig N j : Nat) : Int)
theorem digits_succ (N n : Nat) : digits N (n + 1) = DG ((dig N n : Nat) : Int) :: digits N n := by simp [digits, List.range_succ]
theorem digits_length (N n : Nat) : (digits N n).length = n := by simp [digits]
theorem digits_drop (N n d : Nat) (h : d + 1 ≤ n) : (digits N n).drop d = DG ((dig N (n - 1 - d) : Nat) : Int) :: (digits N n).drop (d + 1) := by
  have hl : d < (digits N n).length := by rw [digits_length]; omega
  rw [List.drop_eq_getElem_cons hl]
  congr 1
  simp [digits]

def len8 (n : Nat) : Nat := (8 * n + 4) / 5
theorem len_val (x : Int) (n : Nat) (h : n ≤ 16777216) (hx : x = n) : ((8 * x) + 5 - 1) / 5 = ((len8 n : Nat) : Int) := by subst hx; unfold len8; omega
theorem len_f (n : Nat) (h : n ≤ 16777216) : b32_Len.f (n : Int) = some ((len8 n : Nat) : Int) := by
  unfold b32_Len.f
  have e : mx 0 (mn 16777216 (n : Int)) = (n : Int) := by unfold mx mn; split <;> split <;> omega
  rw [e, len_val _ n h rfl]
theorem rlen_val (x : Int) (n : Nat) (h : n ≤ 16777216) (hx : x = n) : ((8 * x) + 4) / 5 = ((len8 n : Nat) : Int) := by subst hx; unfold len8; omega
theorem rlen_f (n : Nat) (h : n ≤ 16777216) : pantryref2_Len.f (n : Int) = some ((len8 n : Nat) : Int) := by
  unfold pantryref2_Len.f
  have e : mx 0 (mn (n : Int) 16777216) = (n : Int) := by unfold mx mn; split <;> split <;> omega
  rw [e, rlen_val _ n h rfl]

theorem drop_set_ge (l : List Int) (d : Nat) (x : Int) (h : d < l.length) : (l.set d x).drop d = x :: l.drop (d + 1) := by
  rw [List.drop_eq_getElem_cons (by simpa using h)]
  simp [List.drop_set_of_lt]

theorem pow256 (at_ i : Nat) (h : 5 * i ≤ 8 * at_) : 256 ^ at_ = 32 ^ i * 2 ^ (8 * at_ - 5 * i) := by
  rw [show (256 : Nat) = 2 ^ 8 from rfl, show (32 : Nat) = 2 ^ 5 from rfl, ← Nat.pow_mul, ← Nat.pow_mul, ← Nat.pow_add]
  congr 1; omega

/-- one byte more -/
theorem take_step (b : List Int) (at_ i : Nat) (hat : at_ < b.length) (h : 5 * i ≤ 8 * at_) :
    V (b.take (at_ + 1)) / 32 ^ i = V (b.take at_) / 32 ^ i + (b.getD at_ 0).toNat * 2 ^ (8 * at_ - 5 * i) := by
  rw [V_take_succ b at_ hat, pow256 at_ i h, Nat.mul_assoc, Nat.add_mul_div_left _ _ (Nat.pow_pos (by decide)), Nat.mul_comm (2 ^ _)]
theorem take_small (b : List Int) (hb : B8 b) (at_ i : Nat) (hat : at_ ≤ b.length) (h : 5 * i ≤ 8 * at_) : V (b.take at_) / 32 ^ i < 2 ^ (8 * at_ - 5 * i) := by
  have := V_lt (hb.take at_)
  rw [List.length_take, Nat.min_eq_left hat, pow256 at_ i h] at this
  exact Nat.div_lt_of_lt_mul this
/-- what is read of the digit does not hang on the bytes to come -/
theorem take_dig (b : List Int) (at_ i : Nat) (hat : at_ ≤ b.length) (h : 5 * i + 5 ≤ 8 * at_) : V (b.take at_) / 32 ^ i % 32 = dig (V b) i := by
  unfold dig
  rw [V_take_drop b at_ hat, pow256 at_ i (by omega), Nat.mul_assoc, Nat.add_mul_div_left _ _ (Nat.pow_pos (by decide))]
  have : 2 ^ (8 * at_ - 5 * i) = 32 * 2 ^ (8 * at_ - 5 * i - 5) := by
    rw [show (32 : Nat) = 2 ^ 5 from rfl, ← Nat.pow_add]; congr 1; omega
  rw [this, Nat.mul_assoc, Nat.add_mul_mod_self_left]

theorem small_sum {x y s : Nat} (hx : x < 2 ^ s) (hy : y < 256) (hs : s ≤ 7) : x + y * 2 ^ s < 32768 := by
  have : 2 ^ s ≤ 2 ^ 7 := Nat.pow_le_pow_right (by decide) hs
  have h2 : y * 2 ^ s ≤ 255 * 2 ^ s := Nat.mul_le_mul_right _ (by omega)
  have h3 : 255 * 2 ^ s ≤ 255 * 128 := Nat.mul_le_mul_left _ this
  omega

theorem text_end (N n i : Nat) (out : List Int) (hn : out.length = n) (hd : out.drop (n - i) = (digits N n).drop (n - i)) (hi : i = n) : out = digits N n := by
  subst hi; simpa using hd

/-- one digit is laid -/
theorem text_out {N n i : Nat} {out : List Int} (hi : i < n) (hn : out.length = n) (hd : out.drop (n - i) = (digits N n).drop (n - i)) :
    (out.set (n - 1 - i) (DG ((dig N i : Nat) : Int))).drop (n - (i + 1)) = (digits N n).drop (n - (i + 1)) := by
  have e : n - 1 - i = n - (i + 1) := by omega
  rw [e, drop_set_ge _ _ _ (by omega), digits_drop N n (n - (i + 1)) (by omega)]
  rw [show n - 1 - (n - (i + 1)) = i from by omega, show n - (i + 1) + 1 = n - i from by omega, hd]

theorem wr1 (n i : Nat) (hn : n ≤ 26843546) (hin : i < n) : wrap64 (wrap64 ((n : Int) - 1) - (i : Int)) = ((n - 1 - i : Nat) : Int) := by
  rw [w64 (n := (n : Int) - 1) (by omega) (by omega), w64 (by omega) (by omega)]; omega
theorem wr2 (i : Nat) (hn : i ≤ 26843546) : wrap64 ((i : Int) + 1) = ((i + 1 : Nat) : Int) := by rw [w64 (by omega) (by omega)]; omega
theorem wr3 (hv : Nat) (h : hv < 5) : IntKind.u64.wrap (mx (IntKind.u64.wrap ((hv : Int) + 8)) 5 - 5) = ((hv + 3 : Nat) : Int) := by
  rw [wu64 (n := (hv : Int) + 8) (by omega) (by omega)]; unfold mx; rw [if_neg (by omega), wu64 (by omega) (by omega)]; omega
theorem wr4 (hv : Nat) (h : hv ≤ 7) : IntKind.u64.wrap (mx (hv : Int) 5 - 5) = ((hv - 5 : Nat) : Int) := by
  unfold mx; split
  · rw [wu64 (by omega) (by omega)]; omega
  · rw [wu64 (by omega) (by omega)]; omega
theorem wr5 (bs c hv : Nat) (h5 : hv < 5) (hc2 : c < 256) (hs : bs < 2 ^ hv) (hsum : bs + c * 2 ^ hv < 32768) (y : Int) (hc : y = (c : Int)) :
    Go.bits .or .u32 (bs : Int) (shl .u32 (y % 4294967296) (hv : Int)) = ((bs + c * 2 ^ hv : Nat) : Int) := by
  rw [hc, show (c : Int) % 4294967296 = (c : Int) from by omega, shl_u32 _ _ (by omega) (by omega), u32_or_low _ _ _ hs (by omega)]
theorem in32 (x : Nat) : (0 : Int) ≤ ((x % 32 : Nat) : Int) ∧ ((x % 32 : Nat) : Int) < 32 := by omega
theorem place_in (n i : Nat) (hin : i < n) (m : Nat) (hm : m = n) : (0 : Int) ≤ ((n - 1 - i : Nat) : Int) ∧ ((n - 1 - i : Nat) : Int) < (m : Int) := by omega
theorem cdiv (x : Nat) : ((x : Int) / 32) = ((x / 32 : Nat) : Int) := by omega
/-- a round that takes a byte in -/
theorem l0_fill (b : List Int) (out : List Int) (k n i at_ hv bs c : Nat) (hn : n ≤ 26843546) (hin : i < n) (h5 : hv < 5) (hal : at_ < b.length) (hL : b.length ≤ 16777216) (hol : out.length = n)
    (hc : rd b (at_ : Int) = (c : Int)) (hc2 : c < 256) (hs : bs < 2 ^ hv) (hsum : bs + c * 2 ^ hv < 32768) :
    b32_Text.l0 (k + 1) b (n : Int) out (bs : Int) (hv : Int) (at_ : Int) (n : Int) (i : Int) =
      b32_Text.l0 k b (n : Int) (out.set (n - 1 - i) (DG (((bs + c * 2 ^ hv) % 32 : Nat) : Int))) (((bs + c * 2 ^ hv) / 32 : Nat) : Int) ((hv + 3 : Nat) : Int) ((at_ + 1 : Nat) : Int) (n : Int) ((i + 1 : Nat) : Int) := by
  have c1 : (i : Int) < (n : Int) := by omega
  have c2 : (hv : Int) < 5 := by omega
  have c3 : (at_ : Int) < (b.length : Int) := by omega
  have c4 : (0 : Int) ≤ (at_ : Int) := Int.natCast_nonneg _
  have c5 : (0 : Int) ≤ (hv : Int) := Int.natCast_nonneg _
  have p := place_in n i hin out.length hol
  have e1 := wr2 at_ (by omega)
  have e2 := wr2 i (by omega)
  have e3 := wr1 n i hn hin
  have e4 := wr3 hv h5
  have e5 := wr5 bs c hv h5 hc2 hs hsum _ hc
  have e6 := u32_and31 (bs + c * 2 ^ hv) (by omega)
  have p2 := in32 (bs + c * 2 ^ hv)
  have e7 := cdiv (bs + c * 2 ^ hv)
  rw [← e5] at e6 e7
  simp only [b32_Text.l0]
  refine it c1 (it c2 (it c3 (it c4 (it c5 (it (by rw [e6]; exact p2.1) (it (by rw [e6]; exact p2.2) (it (by rw [e3]; exact p.1) (it (by rw [e3]; exact p.2) ?_))))))))
  rw [e6, e7, e3, e4, e1, e2, Int.toNat_natCast]
  rfl
/-- a round that takes none in -/
theorem l0_none (b : List Int) (out : List Int) (k n i at_ hv bs : Nat) (hn : n ≤ 26843546) (hin : i < n) (h5 : ¬ (hv < 5 ∧ at_ < b.length)) (h7 : hv ≤ 7) (hol : out.length = n) (hbl : bs < 4294967296) :
    b32_Text.l0 (k + 1) b (n : Int) out (bs : Int) (hv : Int) (at_ : Int) (n : Int) (i : Int) =
      b32_Text.l0 k b (n : Int) (out.set (n - 1 - i) (DG ((bs % 32 : Nat) : Int))) ((bs / 32 : Nat) : Int) ((hv - 5 : Nat) : Int) (at_ : Int) (n : Int) ((i + 1 : Nat) : Int) := by
  have c1 : (i : Int) < (n : Int) := by omega
  have c3 : hv < 5 → ¬ (at_ : Int) < (b.length : Int) := by omega
  have p := place_in n i hin out.length hol
  have e2 := wr2 i (by omega)
  have e3 := wr1 n i hn hin
  have e4 := wr4 hv h7
  have e6 := u32_and31 bs hbl
  have p2 := in32 bs
  have e7 := cdiv bs
  by_cases h : hv < 5
  · have c2 : (hv : Int) < 5 := by clear e2 e3 e4 e6 e7; omega
    simp only [b32_Text.l0]
    refine it c1 (it c2 (jf (c3 h) (it (by rw [e6]; exact p2.1) (it (by rw [e6]; exact p2.2) (it (by rw [e3]; exact p.1) (it (by rw [e3]; exact p.2) ?_))))))
    rw [e6, e7, e3, e4, e2, Int.toNat_natCast]
    rfl
  · have c2 : ¬ (hv : Int) < 5 := by clear e2 e3 e4 e6 e7; omega
    simp only [b32_Text.l0]
    refine it c1 (jf c2 (it (by rw [e6]; exact p2.1) (it (by rw [e6]; exact p2.2) (it (by rw [e3]; exact p.1) (it (by rw [e3]; exact p.2) ?_)))))
    rw [e6, e7, e3, e4, e2, Int.toNat_natCast]
    rfl
theorem bits_small (b : List Int) (hb : B8 b) (at_ i hv bs : Nat) (hat : at_ ≤ b.length) (hhv : hv = 8 * at_ - 5 * i) (h7 : hv ≤ 7) (hbs : bs = V (b.take at_) / 32 ^ i) : bs < 2 ^ hv := by
  by_cases hz : 5 * i ≤ 8 * at_
  · have := take_small b hb at_ i hat hz
    rw [← hbs, ← hhv] at this
    exact this
  · have h1 := V_lt (hb.take at_)
    rw [List.length_take, Nat.min_eq_left hat] at h1
    have h2 : 256 ^ at_ ≤ 32 ^ i := by
      rw [show (256 : Nat) = 2 ^ 8 from rfl, show (32 : Nat) = 2 ^ 5 from rfl, ← Nat.pow_mul, ← Nat.pow_mul]
      exact Nat.pow_le_pow_right (by decide) (by omega)
    rw [hbs, Nat.div_eq_of_lt (by omega)]; exact Nat.pow_pos (by decide)

theorem text_l0 (b : List Int) (hb : B8 b) (hL : b.length ≤ 16777216) (n : Nat) (hn5 : 5 * n ≤ 8 * b.length + 4) : ∀ (d i at_ hv bs k : Nat) (out : List Int),
    i + d = n → d < k → out.length = n → at_ ≤ b.length → (at_ < b.length → 5 * i ≤ 8 * at_) → hv = 8 * at_ - 5 * i → hv ≤ 7 →
    bs = V (b.take at_) / 32 ^ i → out.drop (n - i) = (digits (V b) n).drop (n - i) →
    b32_Text.l0 k b (n : Int) out (bs : Int) (hv : Int) (at_ : Int) (n : Int) (i : Int) = some (strOfNums (digits (V b) n)) := by
  intro d
  induction d with
  | zero =>
    intro i at_ hv bs k out hi hk hol hat hlt hhv h7 hbs hd
    obtain ⟨k, rfl⟩ : ∃ m, k = m + 1 := ⟨k - 1, by omega⟩
    simp only [b32_Text.l0]
    rw [if_neg (by omega), text_end (V b) n i out hol hd (by omega)]
  | succ d ih =>
    intro i at_ hv bs k out hi hk hol hat hlt hhv h7 hbs hd
    obtain ⟨k, rfl⟩ : ∃ m, k = m + 1 := ⟨k - 1, by omega⟩
    have hin : i < n := by omega
    have hsm := bits_small b hb at_ i hv bs hat hhv h7 hbs
    by_cases hc : hv < 5 ∧ at_ < b.length
    · obtain ⟨h5, hal⟩ := hc
      have h5i : 5 * i ≤ 8 * at_ := hlt hal
      have hg := hb.getD at_
      have hst := take_step b at_ i hal h5i
      rw [← hbs, ← hhv] at hst
      have hsum : bs + (b.getD at_ 0).toNat * 2 ^ hv < 32768 := small_sum hsm (by omega) (by omega)
      have hdig : (bs + (b.getD at_ 0).toNat * 2 ^ hv) % 32 = dig (V b) i := by rw [← hst]; exact take_dig b (at_ + 1) i (by omega) (by omega)
      rw [l0_fill b out k n i at_ hv bs (b.getD at_ 0).toNat (by omega) hin h5 hal hL hol (by rw [rd_nat]; omega) (by omega) hsm hsum, hdig]
      refine ih (i + 1) (at_ + 1) (hv + 3) _ k _ (by omega) (by omega) (by simpa using hol) (by omega) (fun _ => by omega) (by omega) (by omega) ?_ (text_out hin hol hd)
      rw [← hst, Nat.pow_succ, ← Nat.div_div_eq_div_mul]
    · have hdig : bs % 32 = dig (V b) i := by
        by_cases h5 : hv < 5
        · have : at_ = b.length := by omega
          rw [hbs, this, List.take_length]; rfl
        · rw [hbs]; exact take_dig b at_ i hat (by omega)
      have hbl : bs < 4294967296 := by
        have h2 : 2 ^ hv ≤ 2 ^ 7 := Nat.pow_le_pow_right (by decide) h7
        omega
      rw [l0_none b out k n i at_ hv bs (by omega) hin hc h7 hol hbl, hdig]
      refine ih (i + 1) at_ (hv - 5) _ k _ (by omega) (by omega) (by simpa using hol) hat (fun h => by have := hlt h; omega) (by omega) (by omega) ?_ (text_out hin hol hd)
      rw [hbs, Nat.pow_succ, ← Nat.div_div_eq_div_mul]

/-- what bytes' text is -/
theorem text_f (b : List Int) (hb : B8 b) (hL : b.length ≤ 16777216) (k : Nat) (hk : len8 b.length < k) : b32_Text.f k b = some (strOfNums (digits (V b) (len8 b.length))) := by
  have hn8 : len8 b.length ≤ 26843546 := by unfold len8; omega
  unfold b32_Text.f
  rw [len_f _ hL]
  simp only [Option.bind_some]
  rw [if_pos (by omega), Int.toNat_natCast, if_pos (by omega), List.length_replicate]
  have := text_l0 b hb hL (len8 b.length) (by unfold len8; omega) (len8 b.length) 0 0 0 0 k (List.replicate (len8 b.length) 0) (by omega) hk (by simp) (by omega) (fun _ => by omega) (by omega) (by omega) (by simp [V]) (by simp [digits_length])
  simpa using this
theorem text_ev (b : List Int) (hb : B8 b) (hL : b.length ≤ 16777216) : Ev (fun k => b32_Text.f k b) (strOfNums (digits (V b) (len8 b.length))) := ⟨len8 b.length + 1, fun k hk => text_f b hb hL k (by omega)⟩
theorem DG_range (x : Int) : 0 ≤ DG x ∧ DG x < 256 := by have := bt_range (⟨#[48, 49, 50, 51, 52, 53, 54, 55, 56, 57, 97, 98, 99, 100, 102, 103, 104, 105, 106, 107, 108, 109, 110, 112, 113, 114, 115, 118, 119, 120, 121, 122]⟩ : ByteArray) x; unfold DG; omega
theorem digits_B8 (N n : Nat) : B8 (digits N n) := fun x hx => by
  simp only [digits, List.mem_map] at hx
  obtain ⟨j, _, rfl⟩ := hx
  exact DG_range _
theorem DG_inj' : ∀ x : Nat, x < 32 → ∀ y : Nat, y < 32 → DG (x : Int) = DG (y : Int) → x = y := by decide +kernel
theorem DG_inj (x y : Nat) (hx : x < 32) (hy : y < 32) (h : DG (x : Int) = DG (y : Int)) : x = y := DG_inj' x hx y hy h
/-- the digits tell the number -/
theorem digits_inj (N M : Nat) : ∀ n, digits N n = digits M n → N % 32 ^ n = M % 32 ^ n := by
  intro n
  induction n with
  | zero => intro _; simp [Nat.mod_one]
  | succ n ih =>
    intro h
    rw [digits_succ, digits_succ] at h
    simp only [List.cons.injEq] at h
    have h1 := DG_inj _ _ (dig_lt N n) (dig_lt M n) h.1
    have h2 := ih h.2
    unfold dig at h1
    rw [Nat.pow_succ, Nat.mod_mul, Nat.mod_mul, h1, h2]
theorem digits_V_inj {l m : List Int} (hl : B8 l) (hm : B8 m) (he : l.length = m.length) (h : digits (V l) (len8 l.length) = digits (V m) (len8 m.length)) : l = m := by
  rw [← he] at h
  have h1 := digits_inj _ _ _ h
  have hp : 256 ^ l.length ≤ 32 ^ len8 l.length := by
    rw [show (256 : Nat) = 2 ^ 8 from rfl, show (32 : Nat) = 2 ^ 5 from rfl, ← Nat.pow_mul, ← Nat.pow_mul]
    exact Nat.pow_le_pow_right (by decide) (by unfold len8; omega)
  have a := V_lt hl
  have b := V_lt hm
  rw [← he] at b
  rw [Nat.mod_eq_of_lt (by omega), Nat.mod_eq_of_lt (by omega)] at h1
  exact V_inj hl hm he h1
theorem known_ev : Ev (fun k => pantrylaw2_known.f k) true := by
  unfold pantrylaw2_known.f
  refine Ev.bind (text_ev [31] (B8.one (by decide) (by decide)) (by decide)) ?_
  have e : (strOfNums (digits (V [31]) (len8 [(31 : Int)].length))).toList = [48, 122] := by rw [toList_data]; decide +kernel
  refine ⟨0, fun k _ => ?_⟩
  rw [if_pos e, show b32_Len.f 20 = some 32 from by decide +kernel]
  rfl
end Go.Proofs.Ytbcogccamagkmaa.Pure
