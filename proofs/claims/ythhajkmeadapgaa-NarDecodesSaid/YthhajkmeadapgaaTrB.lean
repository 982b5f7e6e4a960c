/- trees: heavy. Own work. -/
import Derived.Test.YthhajkmeadapgaaTrA
namespace Go.Proofs.Ythhajkmeadapgaa.Tree
set_option linter.unusedVariables false
set_option linter.unusedSimpArgs false
open Go.RowKit Go.Proofs.Ythhajkmeadapgaa.PL Go.Proofs.Ythhajkmeadapgaa.Mn Go.Proofs.YthhajkmeadapgaaW.PrintWords Go.Proofs.YthhajkmeadapgaaW.PrintLast Go.Proofs.YthhajkmeadapgaaW.PrintMore
set_option maxHeartbeats 400000 in
theorem heavy_any (N : Nat) (t : S26) (A2 : Option Addr) (c2 : Nat) (A3 : Option Addr) (c3 : Nat) (A4 : Option Addr) (c4 : Nat) (w : World) (h : TR w t A2 c2 A3 c3 A4 c4) (hG : GT N t) :
    Calls Try.prog 10 #[TV t A2 c2 A3 c3 A4 c4] w fun e w' => ∃ r : Bool, e = .returned (.bool r) ∧ Below w.heap.size w w' ∧ (r = false → Wt N t ≤ 3000) := by
  obtain ⟨wb, hwb⟩ : ∃ x, w.alloc (.cells #[.int .i64 t.f0, .bool t.f1, .slice A2 t.f2.length c2, .slice A3 t.f3.length c3, .slice A4 t.f4.length c4] 26) = x := ⟨_, rfl⟩
  have hbw : Below w.heap.size w wb := hwb ▸ below_alloc (Below.refl _ w) _
  have hsz : wb.heap.size = w.heap.size + 1 := by rw [← hwb]; simp
  have HGR := Aside0.mk (great_any w N t A2 c2 A3 c3 A4 c4 (wb.alloc (.cells #[.int .i64 0] 3)) (w.heap.size + 1) 0 h hG (below_alloc hbw _) (by omega) (hsz ▸ heap_alloc_new wb _) (by omega))
  rw [← hwb] at HGR
  clear hbw hsz hwb wb
  clear h hG
  go_enter Try.func10, Try.ntmps10
  go_wp2_with fail
  refine HGR.out.mono ?_
  rintro e_ w1 ⟨r, n', rfl, hg1, hk1, hb1, hr1⟩
  have HB := Aside0.mk hb1
  have HR := Aside0.mk hr1
  clear hg1 hk1 hb1 hr1 HGR
  go_wp2_with fail
  exact bodyPost_ret (v := .bool r) (by simp [results, Try.results10, go_sem]) rfl ⟨r, rfl, HB.out, fun hr => by obtain ⟨h1, h2⟩ := HR.out hr; omega⟩
end Go.Proofs.Ythhajkmeadapgaa.Tree
