/- SHA-256 in plain words. Own work. -/
import Derived.Test.YtlkddmkfllnnhaaDgR
namespace Go.Proofs.Ytlkddmkfllnnhaa.Dg
set_option linter.unusedVariables false
set_option linter.unusedSimpArgs false
open Go.RowKit Go.Proofs.Ytlkddmkfllnnhaa.Md Go.Proofs.Ytlkddmkfllnnhaa.PL Go.Proofs.YtlkddmkfllnnhaaW.PrintWords Go.Proofs.YtlkddmkfllnnhaaW.PrintLast Go.Proofs.YtlkddmkfllnnhaaW.PrintMore

def U32 (l : List Int) : Prop := ∀ x ∈ l, 0 ≤ x ∧ x < 4294967296
theorem U32.getD {l : List Int} (h : U32 l) (i : Nat) : 0 ≤ l.getD i 0 ∧ l.getD i 0 < 4294967296 := by
  by_cases hi : i < l.length
  · rw [List.getD_eq_getElem?_getD, List.getElem?_eq_getElem hi]; exact h _ (List.getElem_mem _)
  · rw [List.getD_eq_getElem?_getD, List.getElem?_eq_none (by omega)]; simp
theorem U32.set {l : List Int} (h : U32 l) (i : Nat) {x : Int} (h0 : 0 ≤ x ∧ x < 4294967296) : U32 (l.set i x) := fun y hy => by
  rcases List.mem_or_eq_of_mem_set hy with hy | hy
  · exact h y hy
  · subst hy; exact h0
theorem wrap_r (n : Int) : 0 ≤ IntKind.u32.wrap n ∧ IntKind.u32.wrap n < 4294967296 := by rw [IntKind.wrap_u32]; omega
theorem mod_r (n : Int) : 0 ≤ n % 4294967296 ∧ n % 4294967296 < 4294967296 := by omega
theorem bits_r (o : BinOp) (a b : Int) : 0 ≤ Go.bits o .u32 a b ∧ Go.bits o .u32 a b < 4294967296 := wrap_r _
/-- a word of four bytes -/
def word (p : List Int) (j : Nat) : Int :=
  Go.bits .or .u32 (Go.bits .or .u32 (Go.bits .or .u32 (IntKind.u32.wrap (IntKind.u32.wrap (p.getD (4 * j) 0) * 16777216)) (IntKind.u32.wrap (IntKind.u32.wrap (p.getD (4 * j + 1) 0) * 65536))) (IntKind.u32.wrap (IntKind.u32.wrap (p.getD (4 * j + 2) 0) * 256))) (IntKind.u32.wrap (p.getD (4 * j + 3) 0))
def wds (p : List Int) (k : Nat) : List Int := (List.range k).map (word p)
def sg0 (x : Int) : Int := Go.bits .xor .u32 (Go.bits .xor .u32 (rr 7 x) (rr 18 x)) (x / 8)
def sg1 (x : Int) : Int := Go.bits .xor .u32 (Go.bits .xor .u32 (rr 17 x) (rr 19 x)) (x / 1024)
def nxt (l : List Int) (n : Nat) : Int := (l.getD (n - 16) 0 + sg0 (l.getD (n - 15) 0) + l.getD (n - 7) 0 + sg1 (l.getD (n - 2) 0)) % 4294967296
/-- the words of a block -/
def sch (p : List Int) : Nat → List Int
  | 0 => wds p 16
  | n + 1 => sch p n ++ [nxt (sch p n) (n + 16)]
theorem wds_len (p : List Int) (k : Nat) : (wds p k).length = k := by simp [wds]
theorem sch_len (p : List Int) (n : Nat) : (sch p n).length = n + 16 := by
  induction n with
  | zero => exact wds_len p 16
  | succ n ih => simp only [sch, List.length_append, ih, List.length_singleton]
theorem wds_succ (p : List Int) (k : Nat) : wds p (k + 1) = wds p k ++ [word p k] := by simp [wds, List.range_succ]
theorem take_set (ws : List Int) (k : Nat) (x : Int) (hk : k < ws.length) : (ws.set k x).take (k + 1) = ws.take k ++ [x] := by
  rw [List.take_succ_eq_append_getElem (by rw [List.length_set]; exact hk), List.getElem_set_self]
  congr 1
  exact List.take_set_of_le (Nat.le_refl k)
theorem getD_take (ws : List Int) (k j : Nat) (h : j < k) : (ws.take k).getD j 0 = ws.getD j 0 := by
  simp only [List.getD_eq_getElem?_getD, List.getElem?_take, if_pos h]
def ch (e f g : Int) : Int := Go.bits .xor .u32 (Go.bits .and .u32 e f) (Go.bits .and .u32 (Go.bits .xor .u32 IntKind.u32.max e) g)
def sum1 (e : Int) : Int := Go.bits .xor .u32 (Go.bits .xor .u32 (rr 6 e) (rr 11 e)) (rr 25 e)
def sum0 (a : Int) : Int := Go.bits .xor .u32 (Go.bits .xor .u32 (rr 2 a) (rr 13 a)) (rr 22 a)
def maj (a b c : Int) : Int := Go.bits .xor .u32 (Go.bits .xor .u32 (Go.bits .and .u32 a b) (Go.bits .and .u32 a c)) (Go.bits .and .u32 b c)
def one (e f g h k w : Int) : Int := h + sum1 e + ch e f g + k + w
def two (a b c : Int) : Int := sum0 a + maj a b c
def rnd : List Int → Int → Int → List Int
  | [a, b, c, d, e, f, g, h], k, w => [(one e f g h k w + two a b c) % 4294967296, a, b, c, (d + one e f g h k w) % 4294967296, e, f, g]
  | v, _, _ => v
def rnds (ss ws : List Int) : Nat → List Int
  | 0 => ss
  | n + 1 => rnd (rnds ss ws n) (KK.getD n 0) (ws.getD n 0)
def adds (ss vs : List Int) : Nat → List Int
  | 0 => ss
  | n + 1 => (adds ss vs n).set n (((adds ss vs n).getD n 0 + vs.getD n 0) % 4294967296)
/-- the state behind a block -/
def comp (ss p : List Int) : List Int := adds ss (rnds ss (sch p 48) 64) 8
theorem adds_len (ss vs : List Int) (n : Nat) : (adds ss vs n).length = ss.length := by
  induction n with
  | zero => rfl
  | succ n ih => rw [adds, List.length_set, ih]
theorem adds_U32 {ss : List Int} (h : U32 ss) (vs : List Int) (n : Nat) : U32 (adds ss vs n) := by
  induction n with
  | zero => exact h
  | succ n ih => exact ih.set n (mod_r _)
theorem comp_len (ss p : List Int) : (comp ss p).length = ss.length := adds_len _ _ _
theorem comp_U32 {ss : List Int} (h : U32 ss) (p : List Int) : U32 (comp ss p) := adds_U32 h _ _
end Go.Proofs.Ytlkddmkfllnnhaa.Dg
