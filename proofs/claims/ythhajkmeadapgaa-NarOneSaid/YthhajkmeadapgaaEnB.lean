/- nar: words, node's inner function. Own work. -/
import Derived.Test.YthhajkmeadapgaaEnA
namespace Go.Proofs.Ythhajkmeadapgaa.Tree
set_option linter.unusedVariables false
set_option linter.unusedSimpArgs false
open Go.RowKit Go.Proofs.Ythhajkmeadapgaa.PL Go.Proofs.Ythhajkmeadapgaa.Mn Go.Proofs.YthhajkmeadapgaaW.PrintWords Go.Proofs.YthhajkmeadapgaaW.PrintLast Go.Proofs.YthhajkmeadapgaaW.PrintMore
def txs (ss : List ByteArray) : List Int := (ss.map tx).flatten
theorem txs_nil : txs [] = [] := rfl
theorem txs_cons (s : ByteArray) (ss : List ByteArray) : txs (s :: ss) = tx s ++ txs ss := rfl
theorem txs_append (a b : List ByteArray) : txs (a ++ b) = txs a ++ txs b := by simp [txs]
theorem txs_take_succ {ss : List ByteArray} {k : Nat} (h : k < ss.length) : txs (ss.take (k + 1)) = txs (ss.take k) ++ tx ss[k] := by
  rw [List.take_succ_eq_append_getElem h, txs_append]
  simp [txs]
theorem txs_take_le (ss : List ByteArray) (k : Nat) : (txs (ss.take k)).length ≤ (txs ss).length := by
  have h : txs ss = txs (ss.take k) ++ txs (ss.drop k) := by rw [← txs_append, List.take_append_drop]
  rw [h, List.length_append]
  omega
set_option maxRecDepth 20000 in
set_option maxHeartbeats 1000000 in
theorem words_any {F : Nat} {cap : Value} {I : (Nat → Prop) → List Int → World → Prop} (hP : Puts F cap I) (S : Nat → Prop) (l : List Int) (ss : List ByteArray) (w : World) (p : Nat) (A : Option Addr) (c : Nat) (hI : I S l w) (hp : w.heap[p]? = some (.cells #[.func (.func F) #[] #[cap]] 39 (0, 0))) (hpS : ¬ S p)
    (hC : ∀ W, Kb S w W → Kd.string.C W A ss.length ss) (hss : ∀ s ∈ ss, s.size ≤ 140737488351232) (hn : ss.length ≤ 140737488351232) (hl : l.length + (txs ss).length ≤ 140737488355328) :
    Calls Try.prog 65 #[.slice A ss.length c, .pointer (some ⟨p, 0, none⟩)] w (Put I S (l ++ txs ss) w) := by
  have HP := Aside0.mk hP
  have HI := Aside0.mk hI
  have HL := Aside0.mk hl
  have HC := Aside0.mk hC
  have HB := Aside0.mk hp
  have HSS := Aside0.mk hss
  have hplt := blk_lt hp
  clear hI hl hC hp hss
  go_enter Try.func65, Try.ntmps65
  go_wp2_with fail
  go_loopw [7] (fun v wr => ∃ (k : Nat), v = .int .i64 (k : Int) ∧ k ≤ ss.length ∧ Aside0 (∃ S', I S' (l ++ txs (ss.take k)) wr ∧ Kb S w wr ∧ (∀ i, S' i → S i ∨ w.heap.size ≤ i))) (fun v _ => ss.length - (intOf v).toNat)
  case atStart => exact ⟨0, rfl, Nat.zero_le _, ⟨S, by simpa [txs] using HI.out, Kb.refl S w, fun i hi => .inl hi⟩⟩
  case round =>
    obtain ⟨k, rfl, hk, ⟨S', hI', hk', hs'⟩⟩ := hrel
    have HI' := Aside0.mk hI'
    have HK' := Aside0.mk hk'
    have HS' := Aside0.mk hs'
    clear hI' hk' hs'
    by_cases hlt : k < ss.length
    · obtain ⟨ad, hA, hcs⟩ := Kd.at_string (HC.out wr HK'.out) (k : Int) (by omega) (by omega)
      obtain ⟨s, hs⟩ : ∃ x, rdOf ByteArray.empty ss (k : Int) = x := ⟨_, rfl⟩
      have hse : ss[k] = s := by rw [← hs, rdOf_nat, List.getD_eq_getElem?_getD, List.getElem?_eq_getElem hlt]; rfl
      rw [hs, Int.toNat_natCast] at hcs
      have hsz : s.size ≤ 140737488351232 := hse ▸ HSS.out _ (List.getElem_mem hlt)
      have HSE := Aside0.mk hse
      subst hA
      clear hs hse
      have cellp : wr.cell? ⟨p, 0, none⟩ = some (.func (.func F) #[] #[cap]) := (blk_cell (HK'.out.blk HB.out hpS) 0).trans rfl
      have HB2 : Aside0 (l.length + (txs (ss.take k)).length + (tx s).length ≤ 140737488355328) := ⟨by
        have h1 := txs_take_le ss (k + 1)
        rw [txs_take_succ hlt, HSE.out, List.length_append] at h1
        have := HL.out
        omega⟩
      go_wp2_with fail
      refine (lay_any HP.out S' (l ++ txs (ss.take k)) s wr HI'.out hsz (by rw [List.length_append]; exact HB2.out)).mono ?_
      rintro e_ w3 ⟨rfl, S3, hI3, hk3, hs3⟩
      have HI3 := Aside0.mk hI3
      have HK3 := Aside0.mk (HK'.out.then_ hk3 HS'.out)
      have HS3 : Aside0 (∀ k, S3 k → S k ∨ w.heap.size ≤ k) := ⟨fun k hk => (hs3 k hk).elim (HS'.out k) (fun h => .inr (by have := HK'.out.1.size; omega))⟩
      clear hI3 hk3 hs3
      go_wp2_with fail
      refine ⟨⟨k + 1, by go_num, by omega, ⟨S3, ?_, HK3.out, HS3.out⟩⟩, by simp [intOf]; omega⟩
      rw [txs_take_succ hlt, HSE.out, ← List.append_assoc]
      exact HI3.out
    · have hkk : k = ss.length := by omega
      subst hkk
      go_wp2_with fail
      refine bodyPost_ret (v := .tuple #[]) (by simp [results, Try.results65, go_sem]) rfl ⟨rfl, S', ?_, HK'.out, HS'.out⟩
      have := HI'.out
      rwa [List.take_length] at this
end Go.Proofs.Ythhajkmeadapgaa.Tree
