/- proto's reader: what its methods do to it. Own work. -/
import Derived.Test.YtoblfdloakkmmaaMp5
import Derived.Test.YtoblfdloakkmmaaPL
namespace Go.Proofs.Ytoblfdloakkmmaa.Rd
set_option linter.unusedVariables false
set_option linter.unusedSimpArgs false
open Go.RowKit Go.Proofs.Ytoblfdloakkmmaa.Mp Go.Proofs.Ytoblfdloakkmmaa.PL Go.Proofs.YtoblfdloakkmmaaW.PrintWords Go.Proofs.YtoblfdloakkmmaaW.PrintLast Go.Proofs.YtoblfdloakkmmaaW.PrintMore
attribute [local go_sem] max2_int min2_int

/-- a reader's block -/
def Rd (T : Nat) (w : World) (g : Nat) (A : Option Addr) (c : Nat) (l : List Int) (bad : Bool) : Prop := w.heap[g]? = some (.cells #[.slice A l.length c, .bool bad] T (0, 0))
theorem Rd.c0 {T : Nat} {w : World} {g : Nat} {A : Option Addr} {c : Nat} {l : List Int} {bad : Bool} (h : Rd T w g A c l bad) : w.cell? ⟨g, 0, none⟩ = some (.slice A l.length c) := (blk_cell h 0).trans rfl
theorem Rd.c1 {T : Nat} {w : World} {g : Nat} {A : Option Addr} {c : Nat} {l : List Int} {bad : Bool} (h : Rd T w g A c l bad) : w.cell? ⟨g, 1, none⟩ = some (.bool bad) := (blk_cell h 1).trans rfl
theorem Rd.fr {T : Nat} {w : World} {g : Nat} {A : Option Addr} {c : Nat} {l : List Int} {bad : Bool} (h : Rd T w g A c l bad) (i : Nat) : w.frozen? ⟨g, i, none⟩ = false := blk_frozen h i
theorem Rd.set0 {T : Nat} {w : World} {g : Nat} {A : Option Addr} {c : Nat} {l : List Int} {bad : Bool} (h : Rd T w g A c l bad) (A2 : Option Addr) (c2 : Nat) (l2 : List Int) : Rd T (w.setCell ⟨g, 0, none⟩ (.slice A2 l2.length c2)) g A2 c2 l2 bad := by
  have := blk_set h 0 (.slice A2 l2.length c2)
  simpa [Rd] using this
theorem Rd.set1 {T : Nat} {w : World} {g : Nat} {A : Option Addr} {c : Nat} {l : List Int} {bad : Bool} (h : Rd T w g A c l bad) (b : Bool) : Rd T (w.setCell ⟨g, 1, none⟩ (.bool b)) g A c l b := by
  have := blk_set h 1 (.bool b)
  simpa [Rd] using this

set_option maxHeartbeats 1000000 in
theorem take_ok (g : Nat) (A : Option Addr) (c m : Nat) (l : List Int) (w : World) (hI : Rd 73 w g A c l false) (hc : l.length ≤ c) (hm : m ≤ l.length) :
    Calls Try.prog 42 #[.pointer (some ⟨g, 0, none⟩), .int .i64 (m : Int)] w fun e w' => e = .returned (.slice A (l.take m).length c) ∧
      ∃ A2, w' = w.setCell ⟨g, 0, none⟩ (.slice A2 (l.drop m).length (c - m)) ∧ (∀ W : World, (Kd.int .u8).C W A l.length l → (Kd.int .u8).C W A2 (l.drop m).length (l.drop m)) := by
  have h0 := hI.c0
  have h1 := hI.c1
  have h2 := hI.fr 0
  obtain ⟨i0, hi0, _, hsz0, _⟩ := info_parts info5
  obtain ⟨hcut, _, _⟩ := print_take_of (P := Try.prog) (Value.int .u8) 0 27 5 .i64 Try.underlying27 hi0 hsz0 A c l (m : Int) (by omega) (by omega) hc
  obtain ⟨A2, hcut2, hA2, _⟩ := print_drop_of (P := Try.prog) (Value.int .u8) 0 27 5 .i64 Try.underlying27 hi0 hsz0 A c l (m : Int) (by omega) (by omega) hc
  rw [Int.toNat_natCast] at hcut hcut2 hA2
  have HA2 : Aside0 (∀ W : World, (Kd.int .u8).C W A l.length l → (Kd.int .u8).C W A2 (l.drop m).length (l.drop m)) := ⟨fun W hW => Kd.C_of_reads (h1 := fun _ => rfl) (hA2 W (Kd.reads_of_C hW))⟩
  clear hA2 hI hi0 hsz0
  obtain ⟨t, ht⟩ : ∃ t, l.take m = t := ⟨_, rfl⟩
  obtain ⟨q, hq⟩ : ∃ q, l.drop m = q := ⟨_, rfl⟩
  rw [ht] at hcut ⊢
  rw [hq] at hcut2 HA2 ⊢
  clear ht hq
  have hlt : decide ((l.length : Int) < (m : Int)) = false := decide_eq_false (by omega)
  go_enter Try.func42, Try.ntmps42
  go_wp2
  go_ret
  exact ⟨rfl, A2, rfl, HA2.out⟩
set_option maxHeartbeats 1000000 in
theorem take_bad (g : Nat) (A : Option Addr) (c m : Nat) (l : List Int) (bad : Bool) (w : World) (hI : Rd 73 w g A c l bad) (hbad : bad = true ∨ l.length < m) :
    Calls Try.prog 42 #[.pointer (some ⟨g, 0, none⟩), .int .i64 (m : Int)] w fun e w' => e = .returned (.slice (some ⟨w.heap.size, 0, none⟩) (min m 8) (min m 8)) ∧
      w' = (w.setCell ⟨g, 1, none⟩ (.bool true)).alloc (.cells (madeCells #[.int .u8 0] (min m 8)) 5) := by
  have h0 := hI.c0
  have h1 := hI.c1
  have h2 := hI.fr 1
  clear hI
  by_cases h8 : (8 : Int) < (m : Int)
  · have hmk : ∀ W : World, (Instr.makeSlice 27 (.int .i64 8) (.int .i64 8)).run Try.prog W = .ok (.slice (some ⟨W.heap.size, 0, none⟩) 8 8) (W.alloc (.cells (madeCells #[.int .u8 0] 8) 5)) := print_make_of (P := Try.prog) 27 5 (.int .u8 0) 1 Try.underlying27 info5 rfl (by decide) 8 (by omega)
    rw [show min m 8 = 8 from by omega]
    cases bad with
    | true =>
      clear hbad
      go_enter Try.func42, Try.ntmps42
      go_wp2
      go_ret
      exact ⟨rfl, rfl⟩
    | false =>
      have hlt : l.length < m := hbad.resolve_left (by simp)
      clear hbad
      go_enter Try.func42, Try.ntmps42
      go_wp2
      go_ret
      exact ⟨rfl, rfl⟩
  · have hmk := print_make_of (P := Try.prog) 27 5 (.int .u8 0) 1 Try.underlying27 info5 rfl (by decide) m (by omega)
    rw [show min m 8 = m from by omega]
    cases bad with
    | true =>
      clear hbad
      go_enter Try.func42, Try.ntmps42
      go_wp2
      go_ret
      exact ⟨rfl, rfl⟩
    | false =>
      have hlt : l.length < m := hbad.resolve_left (by simp)
      clear hbad
      go_enter Try.func42, Try.ntmps42
      go_wp2
      go_ret
      exact ⟨rfl, rfl⟩
end Go.Proofs.Ytoblfdloakkmmaa.Rd
