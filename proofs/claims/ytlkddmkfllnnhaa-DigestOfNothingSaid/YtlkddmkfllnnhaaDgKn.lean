/- digest: known. Own work. -/
import Derived.Test.YtlkddmkfllnnhaaDgZ
import Derived.Test.YtlkddmkfllnnhaaDgJ
import Derived.Lib.SlBytesConst
namespace Go.Proofs.Ytlkddmkfllnnhaa.Dg
set_option linter.unusedVariables false
set_option linter.unusedSimpArgs false
open Go.RowKit Go.Proofs.Ytlkddmkfllnnhaa.Md Go.Proofs.Ytlkddmkfllnnhaa.PL Go.Proofs.YtlkddmkfllnnhaaW.PrintWords Go.Proofs.YtlkddmkfllnnhaaW.PrintLast Go.Proofs.YtlkddmkfllnnhaaW.PrintMore
def abc : List Int := [97, 98, 99]
def kkey : List Int := [107, 101, 121]
def fox : List Int := [84, 104, 101, 32, 113, 117, 105, 99, 107, 32, 98, 114, 111, 119, 110, 32, 102, 111, 120, 32, 106, 117, 109, 112, 115, 32, 111, 118, 101, 114, 32, 116, 104, 101, 32, 108, 97, 122, 121, 32, 100, 111, 103]
theorem hex_abc (w : World) : Calls Try.prog 19 #[.agg (nums .u8 (sha abc)).toArray] w fun e w' => e = .returned (.string ⟨#[98, 97, 55, 56, 49, 54, 98, 102, 56, 102, 48, 49, 99, 102, 101, 97, 52, 49, 52, 49, 52, 48, 100, 101, 53, 100, 97, 101, 50, 50, 50, 51, 98, 48, 48, 51, 54, 49, 97, 51, 57, 54, 49, 55, 55, 97, 57, 99, 98, 52, 49, 48, 102, 102, 54, 49, 102, 50, 48, 48, 49, 53, 97, 100]⟩) ∧ Below w.heap.size w w' :=
  (hex_any _ (sha_len _) (sha_B8 _) w).mono fun e w' ⟨he, hb⟩ => ⟨by rw [he, show hexs (sha abc) = _ from sha_abc]; rfl, hb⟩
theorem hex_fox (w : World) : Calls Try.prog 19 #[.agg (nums .u8 (mac kkey fox)).toArray] w fun e w' => e = .returned (.string ⟨#[102, 55, 98, 99, 56, 51, 102, 52, 51, 48, 53, 51, 56, 52, 50, 52, 98, 49, 51, 50, 57, 56, 101, 54, 97, 97, 54, 102, 98, 49, 52, 51, 101, 102, 52, 100, 53, 57, 97, 49, 52, 57, 52, 54, 49, 55, 53, 57, 57, 55, 52, 55, 57, 100, 98, 99, 50, 100, 49, 97, 51, 99, 100, 56]⟩) ∧ Below w.heap.size w w' :=
  (hex_any _ (mac_len _ _) (sha_B8 _) w).mono fun e w' ⟨he, hb⟩ => ⟨by rw [he, show hexs (mac kkey fox) = _ from mac_fox]; rfl, hb⟩
theorem b8_lit {l : List Int} (h : l.all (fun x => decide (0 ≤ x) && decide (x < 256)) = true) : B8 l := fun x hx => by
  have := List.all_eq_true.1 h x hx
  simpa using this
def Mk (w : World) (l : List Int) : World := w.alloc (.cells (nums .u8 l).toArray 5 (l.length, l.length + 1))
theorem row_reads (w : World) (l : List Int) (h : l.length ≤ 1000) : (Kd.int .u8).C (w.alloc (.cells (nums .u8 l).toArray 5 (l.length, l.length + 1))) (some ⟨w.heap.size, 0, none⟩) l.length l :=
  Kd.C_of_reads (d := (0 : Int)) (h1 := fun _ => rfl) ⟨rfl, by omega, fun _ => ⟨_, rfl, fun j hj => by
    rw [add_plain, cell_of_row _ _ j _ _ _ (heap_alloc_new w _)]
    simp [nums, hj, List.getD_eq_getElem?_getD]⟩⟩
set_option maxHeartbeats 4000000 in
set_option maxRecDepth 100000 in
theorem known_any (w : World) : Calls Try.prog 13 #[] w fun e w' => e = .returned (.bool true) ∧ Below w.heap.size w w' := by
  have hcv := fun (w : World) (C : Array Value) (n c : Nat) => Lib.run_convert_bytes_const (P := Try.prog) w 22 5 C n c Try.underlying22 Try.underlying5
  have hcv2 : ∀ (w : World) (B : Obj) (C : Array Value) (n c : Nat), (convert 22 22 (.slice (some ⟨w.heap.size + 1, 0, none⟩) n c)).run Try.prog ((w.alloc B).alloc (.cells C 5)) = .ok (.slice (some ⟨w.heap.size + 1, 0, none⟩) n c) ((w.alloc B).alloc (.cells C 5 (C.size, C.size + 1))) := fun w B C n c => by
    have := hcv (w.alloc B) C n c
    rwa [size_alloc] at this
  have h1 := (sum_any _ 3 abc _ (row_reads w abc (by decide)) (by decide) (by decide) (b8_lit (by decide)))
  have H1 := Aside0.mk h1
  clear h1
  go_enter Try.func13, Try.ntmps13
  go_wp2_with (first | (go_at_call 10; refine H1.out.mono ?_; rintro e w1 ⟨rfl, hb1⟩; have HB1 := Aside0.mk (below_then (below_alloc (Below.refl w.heap.size w) (.cells (nums .u8 abc).toArray 5 (abc.length, abc.length + 1))) (by simp) hb1); clear hb1 H1) | (go_at_call 19; (with_reducible refine (hex_abc _).mono ?_); rintro e w2 ⟨rfl, hb2⟩; have HB2 := Aside0.mk (below_then HB1.out HB1.out.size hb2); clear hb2 HB1) | (go_at_call 14; refine (mac_any _ _ 43 3 fox kkey _ (Kd.C_alloc (row_reads w2 kkey (by decide)) _) (by decide) (by have := row_reads (w2.alloc (.cells (nums .u8 kkey).toArray 5 (kkey.length, kkey.length + 1))) fox (by decide); rw [size_alloc] at this; exact this) (by decide) (by decide) (b8_lit (by decide)) (b8_lit (by decide))).mono ?_; rintro e w3 ⟨rfl, hb3⟩; have HB3 := Aside0.mk (below_then (below_alloc (below_alloc HB2.out (.cells (nums .u8 kkey).toArray 5 (kkey.length, kkey.length + 1))) (.cells (nums .u8 fox).toArray 5 (fox.length, fox.length + 1))) (by have := HB2.out.size; simp; omega) hb3); clear hb3 HB2) | (go_at_call 19; (with_reducible refine (hex_fox _).mono ?_); rintro e w4 ⟨rfl, hb4⟩; have HB4 := Aside0.mk (below_then HB3.out HB3.out.size hb4); clear hb4 HB3))
  go_ret
  exact ⟨rfl, HB4.out⟩
end Go.Proofs.Ytlkddmkfllnnhaa.Dg
