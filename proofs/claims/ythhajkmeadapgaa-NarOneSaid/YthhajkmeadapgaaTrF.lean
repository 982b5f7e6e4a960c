/- tree: check and Check, whole contracts. Own work. -/
import Derived.Test.YthhajkmeadapgaaTrE
namespace Go.Proofs.Ythhajkmeadapgaa.Tree
set_option linter.unusedVariables false
set_option linter.unusedSimpArgs false
open Go.RowKit Go.Proofs.Ythhajkmeadapgaa.PL Go.Proofs.Ythhajkmeadapgaa.Mn Go.Proofs.YthhajkmeadapgaaW.PrintWords Go.Proofs.YthhajkmeadapgaaW.PrintLast Go.Proofs.YthhajkmeadapgaaW.PrintMore
theorem check_full (w0 : World) : ∀ N, CK w0 N := by
  intro N
  induction N with
  | zero => intro t A2 c2 A3 c3 A4 c4 w g n deep h hG; exact hG.elim
  | succ N ih =>
    intro t A2 c2 A3 c3 A4 c4 w g n deep h hG hB hg hblk hn hdp
    have hG' := hG
    obtain ⟨-, ⟨-, m1, -⟩, ⟨-, m2, -⟩, -, m3, -⟩ := hG'
    by_cases h1 : 65536 < n + 1 ∨ 64 < deep
    · have hc : chk (N + 1) t deep n = (5, n + 1) := by rw [chk, if_pos h1]
      rw [hc]
      refine (check_long t A2 c2 A3 c3 A4 c4 w g n deep hblk hn hdp h1 (by omega) (by omega) (by omega)).mono ?_
      rintro e w' ⟨k1, k2, k3, k4⟩
      exact ⟨k1, k2, k3, k4 w0 hB hg⟩
    · by_cases h2 : formE t ≠ 0
      · have hc : chk (N + 1) t deep n = (formE t, n + 1) := by rw [chk, if_neg h1, if_pos h2]
        rw [hc]
        refine (check_form t A2 c2 A3 c3 A4 c4 w g n deep hblk (by omega) (by omega) h2 (by omega) (by omega) (by omega)).mono ?_
        rintro e w' ⟨k1, k2, k3, k4⟩
        exact ⟨k1, k2, k3, k4 w0 hB hg⟩
      · exact check_step w0 N ih t A2 c2 A3 c3 A4 c4 w g n deep h hG hB hg hblk (by omega) (by omega) (Classical.not_not.1 h2)
set_option maxHeartbeats 400000 in
/-- tree.Check -/
theorem Check_any (N : Nat) (t : S26) (A2 : Option Addr) (c2 : Nat) (A3 : Option Addr) (c3 : Nat) (A4 : Option Addr) (c4 : Nat) (w : World) (h : TR w t A2 c2 A3 c3 A4 c4) (hG : GT N t) :
    Calls Try.prog 28 #[TV t A2 c2 A3 c3 A4 c4] w fun e w' => e = .returned (.int .i64 (chk N t 1 0).1) ∧ Below w.heap.size w w' := by
  obtain ⟨wb, hwb⟩ : ∃ x, w.alloc (.cells #[.int .i64 t.f0, .bool t.f1, .slice A2 t.f2.length c2, .slice A3 t.f3.length c3, .slice A4 t.f4.length c4] 26) = x := ⟨_, rfl⟩
  have hbw : Below w.heap.size w wb := hwb ▸ below_alloc (Below.refl _ w) _
  have hsz : wb.heap.size = w.heap.size + 1 := by rw [← hwb]; simp
  have HGR := Aside0.mk (check_full w N t A2 c2 A3 c3 A4 c4 (wb.alloc (.cells #[.int .i64 0] 3)) (w.heap.size + 1) 0 1 h hG (below_alloc hbw _) (by omega) (hsz ▸ heap_alloc_new wb _) (by omega) (by omega))
  rw [← hwb] at HGR
  clear hbw hsz hwb wb h hG
  go_enter Try.func28, Try.ntmps28
  go_wp2_with fail
  refine HGR.out.mono ?_
  rintro e_ w1 ⟨rfl, hg1, hk1, hb1⟩
  have HB := Aside0.mk hb1
  clear hg1 hk1 hb1 HGR
  go_wp2_with fail
  exact bodyPost_ret (v := .int .i64 (chk N t 1 0).1) (by simp [results, Try.results28, go_sem]) rfl ⟨rfl, HB.out⟩
end Go.Proofs.Ythhajkmeadapgaa.Tree
