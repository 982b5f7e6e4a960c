/- proto: what is written of a Reply, by the program and by the reference. Own work. -/
import Derived.Test.YtoblfdloakkmmaaDecC
import Derived.Test.YtoblfdloakkmmaaRdM
import Derived.Test.YtoblfdloakkmmaaMp6
import Derived.Test.YtoblfdloakkmmaaMp7
import Derived.Test.YtoblfdloakkmmaaMp8
namespace Go.Proofs.Ytoblfdloakkmmaa.Pure
set_option linter.unusedVariables false
open Go.RowKit Go.Proofs.Ytoblfdloakkmmaa.Mp Go.Proofs.Ytoblfdloakkmmaa.PL Go.Proofs.Ytoblfdloakkmmaa.Rd Go.Proofs.YtoblfdloakkmmaaW.PrintWords Go.Proofs.YtoblfdloakkmmaaW.PrintLast Go.Proofs.YtoblfdloakkmmaaW.PrintMore

def headOf (err n : Int) (paths : List ByteArray) : List Int := nb err ++ nb n ++ LE paths.length 4
def repBodyOf (err n : Int) (paths : List ByteArray) (text : ByteArray) : List Int := headOf err n paths ++ paths.flatMap tb ++ tb text
def repOf (err : Int) (paths : List ByteArray) (text : ByteArray) (n : Int) : List Int × Int :=
  if err < 0 ∨ 100 < err then ([], 1) else if 1024 < paths.length then ([], 5) else (frameOf 200 (repBodyOf err n paths text), 0)
theorem repOf_arg {err : Int} {paths : List ByteArray} {text : ByteArray} {n : Int} (h : err < 0 ∨ 100 < err) : repOf err paths text n = ([], 1) := by unfold repOf; rw [if_pos h]
theorem repOf_long {err : Int} {paths : List ByteArray} {text : ByteArray} {n : Int} (h : ¬ (err < 0 ∨ 100 < err)) (h2 : 1024 < paths.length) : repOf err paths text n = ([], 5) := by unfold repOf; rw [if_neg h, if_pos h2]
theorem repOf_ok {err : Int} {paths : List ByteArray} {text : ByteArray} {n : Int} (h : ¬ (err < 0 ∨ 100 < err)) (h2 : ¬ 1024 < paths.length) : repOf err paths text n = (frameOf 200 (repBodyOf err n paths text), 0) := by unfold repOf; rw [if_neg h, if_neg h2]
theorem repenc_l0 (err n : Int) (text : ByteArray) (paths : List ByteArray) (ht : paths.length < 1000000) : ∀ (d i k : Nat) (b : List Int), i + d = paths.length → d + 20 ≤ k → (b ++ (paths.drop i).flatMap tb ++ tb text).length ≤ 4194304 →
    proto_EncodeReply.l0 k b paths (paths.length : Int) (i : Int) err paths text n = some (frameOf 200 (b ++ (paths.drop i).flatMap tb ++ tb text), 0) := by
  intro d
  induction d with
  | zero =>
    intro i k b hi hk hb
    obtain ⟨k, rfl⟩ : ∃ q, k = q + 2 := ⟨k - 2, by omega⟩
    have e : (paths.drop i).flatMap tb = [] := by rw [List.drop_eq_nil_of_le (by omega)]; rfl
    rw [e, List.append_nil] at hb ⊢
    have hbl := hb
    rw [List.length_append, tb_length] at hbl
    have e3 : wrap64 (4194304 - (b.length : Int)) = 4194304 - (b.length : Int) := w64 (by omega) (by omega)
    have htx := text_f b text (by clear e3; omega) k (by clear e3; omega)
    have hfr := frame_f 200 (b ++ tb text) (by clear e3; omega) k (by clear e3; omega)
    simp only [proto_EncodeReply.l0]
    rw [e3]
    clear e3
    refine jf (by omega) (jf (by omega) ?_)
    rw [decide_eq_false (by omega)]
    simp only [proto_EncodeReply.j2]
    exact jf (by simp) (bd htx (jf (by omega) (bd hfr rfl)))
  | succ d ih =>
    intro i k b hi hk hb
    obtain ⟨k, rfl⟩ : ∃ q, k = q + 1 := ⟨k - 1, by omega⟩
    have hil : i < paths.length := by omega
    have ed := List.drop_eq_getElem_cons hil
    rw [ed, List.flatMap_cons, ← List.append_assoc] at hb ⊢
    have hlen : (b ++ tb paths[i]).length ≤ 4194304 := by
      rw [List.length_append, List.length_append] at hb; omega
    rw [List.length_append, tb_length] at hlen
    have er : rdOf ByteArray.empty paths (i : Int) = paths[i] := by rw [rdOf_nat, getD_lt _ _ _ hil]
    have c1 : (i : Int) < (paths.length : Int) := by omega
    have c3 : ¬ (paths[i].size : Int) > 4194304 - (b.length : Int) := by omega
    have ht2 := text_f b paths[i] (by omega) k (by omega)
    have h := ih (i + 1) k (b ++ tb paths[i]) (by omega) (by omega) hb
    have e2 := w1 i (by omega)
    have e3 : wrap64 (4194304 - (b.length : Int)) = 4194304 - (b.length : Int) := w64 (by omega) (by omega)
    simp only [proto_EncodeReply.l0]
    rw [er, e2, e3]
    exact it c1 (it (Int.natCast_nonneg _) (it c1 (jf c3 (bd ht2 h))))
theorem rep_ev (err : Int) (paths : List ByteArray) (text : ByteArray) (n : Int) (hb : (repBodyOf err n paths text).length ≤ 4194304) : Ev (fun k => proto_EncodeReply.f k err paths text n) (repOf err paths text n) := by
  refine ⟨paths.length + 60, fun k hk => ?_⟩
  obtain ⟨k, rfl⟩ : ∃ q, k = q + 1 := ⟨k - 1, by omega⟩
  unfold proto_EncodeReply.f
  by_cases h1 : err < 0
  · rw [repOf_arg (.inl h1)]
    exact it h1 (by simp [proto_EncodeReply.j0])
  refine jf h1 ?_
  by_cases h2 : err > 100
  · rw [repOf_arg (.inr h2), decide_eq_true h2]
    simp [proto_EncodeReply.j0]
  rw [decide_eq_false h2]
  have h12 : ¬ (err < 0 ∨ 100 < err) := by omega
  simp only [proto_EncodeReply.j0]
  refine jf (by simp) ?_
  by_cases h3 : 1024 < paths.length
  · rw [repOf_long h12 h3]
    exact it (by omega) rfl
  rw [repOf_ok h12 h3]
  refine jf (by omega) ?_
  have q1 := little8 (U err) [] (by decide) k (by omega)
  have q2 := little8 (U n) (nb err) (by unfold nb; rw [LE_length]; omega) k (by omega)
  have q3 := little4 paths.length (nb err ++ nb n) (by unfold nb; rw [List.length_append, LE_length, LE_length]; omega) k (by omega)
  have h := repenc_l0 err n text paths (by omega) paths.length 0 k (headOf err n paths) (by omega) (by omega) hb
  have hu : IntKind.u64.wrap ((paths.length : Int)) = (paths.length : Int) := wu64 (by omega) (by omega)
  rw [hu, U_wrap, U_wrap]
  exact bd q1 (bd q2 (bd q3 h))
theorem rrep_l0 (err n : Int) (text : ByteArray) (paths : List ByteArray) (ht : paths.length < 1000000) : ∀ (d i k : Nat) (b : List Int), i + d = paths.length → d + 20 ≤ k → (b ++ (paths.drop i).flatMap tb ++ tb text).length ≤ 4194304 →
    pantryref26_EncodeReply.l0 k b (i : Int) err paths text n = some (frameOf 200 (b ++ (paths.drop i).flatMap tb ++ tb text), 0) := by
  intro d
  induction d with
  | zero =>
    intro i k b hi hk hb
    obtain ⟨k, rfl⟩ : ∃ q, k = q + 1 := ⟨k - 1, by omega⟩
    have e : (paths.drop i).flatMap tb = [] := by rw [List.drop_eq_nil_of_le (by omega)]; rfl
    rw [e, List.append_nil] at hb ⊢
    have hbl := hb
    rw [List.length_append, tb_length] at hbl
    have h4 := four_f b text.size (by omega)
    have c2 : (b ++ LE text.size 4).length + text.size < 140737488355328 := by rw [List.length_append, LE_length]; omega
    have hf := rframe_f 200 (b ++ tb text) hb
    simp only [pantryref26_EncodeReply.l0]
    refine jf (by omega) (bd h4 (it c2 ?_))
    rw [List.append_assoc]
    exact bd hf rfl
  | succ d ih =>
    intro i k b hi hk hb
    obtain ⟨k, rfl⟩ : ∃ q, k = q + 1 := ⟨k - 1, by omega⟩
    have hil : i < paths.length := by omega
    have ed := List.drop_eq_getElem_cons hil
    rw [ed, List.flatMap_cons, ← List.append_assoc] at hb ⊢
    have hlen : (b ++ tb paths[i]).length ≤ 4194304 := by
      rw [List.length_append, List.length_append] at hb; omega
    rw [List.length_append, tb_length] at hlen
    have er : rdOf ByteArray.empty paths (i : Int) = paths[i] := by rw [rdOf_nat, getD_lt _ _ _ hil]
    have c1 : (i : Int) < (paths.length : Int) := by omega
    have h4 := four_f b paths[i].size (by omega)
    have c2 : (b ++ LE paths[i].size 4).length + paths[i].size < 140737488355328 := by rw [List.length_append, LE_length]; omega
    have h := ih (i + 1) k (b ++ tb paths[i]) (by omega) (by omega) hb
    have e2 := w1 i (by omega)
    simp only [pantryref26_EncodeReply.l0]
    rw [er, e2]
    refine it c1 (it (Int.natCast_nonneg _) (bd h4 (it c2 ?_)))
    rw [List.append_assoc]
    exact h
theorem rrep_ev (err : Int) (paths : List ByteArray) (text : ByteArray) (n : Int) (hb : (repBodyOf err n paths text).length ≤ 4194304) : Ev (fun k => pantryref26_EncodeReply.f k err paths text n) (repOf err paths text n) := by
  refine ⟨paths.length + 60, fun k hk => ?_⟩
  obtain ⟨k, rfl⟩ : ∃ q, k = q + 1 := ⟨k - 1, by omega⟩
  unfold pantryref26_EncodeReply.f
  by_cases h1 : err < 0
  · rw [repOf_arg (.inl h1)]
    exact it h1 (by simp [pantryref26_EncodeReply.j0])
  refine jf h1 ?_
  by_cases h2 : err > 100
  · rw [repOf_arg (.inr h2), decide_eq_true h2]
    simp [pantryref26_EncodeReply.j0]
  rw [decide_eq_false h2]
  have h12 : ¬ (err < 0 ∨ 100 < err) := by omega
  simp only [pantryref26_EncodeReply.j0]
  refine jf (by simp) ?_
  by_cases h3 : 1024 < paths.length
  · rw [repOf_long h12 h3]
    exact it (by omega) rfl
  rw [repOf_ok h12 h3]
  refine jf (by omega) ?_
  have q1 := eight_f [] err (by decide) k (by omega)
  have q2 := eight_f (nb err) n (by unfold nb; rw [LE_length]; omega) k (by omega)
  have q3 := four_f (nb err ++ nb n) paths.length (by unfold nb; rw [List.length_append, LE_length, LE_length]; omega)
  have h := rrep_l0 err n text paths (by omega) paths.length 0 k (headOf err n paths) (by omega) (by omega) hb
  exact bd q1 (bd q2 (bd q3 h))
/-- what was written of a Reply is read -/
theorem nb8 (a : Int) (y : List Int) : tk (nb a ++ y) false 8 = (nb a, y, false) := tk_app _ _ 8 (LE_length _ _)
theorem repBody_body (err n : Int) (paths : List ByteArray) (text : ByteArray) (h0 : 0 ≤ err) (h1 : err ≤ 100) (hn : (Lit.int .i64 n).wf = true) (h2 : ∀ s ∈ paths, s.size ≤ 4194304) (h3 : text.size ≤ 4194304) (h4 : paths.length ≤ 1024) :
    repBody (repBodyOf err n paths text) = (false, err.toNat, n, paths, text) := by
  have hU : U err = err.toNat := by unfold U; omega
  have hV1 : V (nb err) = err.toNat := by unfold nb; rw [hU]; exact V_LE _ 8 (by omega)
  have hV2 : wrap64 ((V (nb n) : Nat) : Int) = n := by
    unfold nb
    rw [V_LE _ 8 (U_lt n)]
    have hb := wf_i64 hn
    have h9 : ((U n : Nat) : Int) = n % 18446744073709551616 := by unfold U; omega
    rw [h9]
    unfold wrap64
    omega
  have htx := tx_app text [] h3
  rw [List.append_nil] at htx
  unfold repBody repBodyOf headOf
  rw [List.append_assoc, List.append_assoc, List.append_assoc, nb8]
  simp only
  rw [nb8]
  simp only
  rw [up_app _ _ _ h4 (by decide)]
  simp only
  rw [tl_app _ paths h2]
  simp only
  rw [htx, hV1, hV2]
  simp only [Bool.false_or, List.length_nil, Nat.lt_irrefl, decide_false]
  rw [decide_eq_false (by omega)]
theorem frame_body (kind : Int) (B m : List Int) : ((frameOf kind B ++ m).take (8 + B.length)).drop 8 = B := by
  rw [← frame_len kind B, List.take_left]
  simp [frameOf, LE, LEf, List.range'_succ]
theorem repAll_frame (err n : Int) (paths : List ByteArray) (text : ByteArray) (m : List Int) (h0 : 0 ≤ err) (h1 : err ≤ 100) (hn : (Lit.int .i64 n).wf = true) (h2 : ∀ s ∈ paths, s.size ≤ 4194304) (h3 : text.size ≤ 4194304) (h4 : paths.length ≤ 1024)
    (hb : (repBodyOf err n paths text).length ≤ 4194304) : repAll (frameOf 200 (repBodyOf err n paths text) ++ m) = (err, paths, text, n, ((frameOf 200 (repBodyOf err n paths text)).length : Int), 0) := by
  have hl0 := frame_len 200 (repBodyOf err n paths text)
  have e1 := frame_take3 200 (repBodyOf err n paths text) m
  have e2 := frame_rd3 200 (repBodyOf err n paths text) m
  have e3 := frame_hl 200 (repBodyOf err n paths text) m (by omega)
  have hrb := repBody_body err n paths text h0 h1 hn h2 h3 h4
  generalize repBodyOf err n paths text = B at *
  have e5 := frame_body 200 B m
  have e4 : is38 200 = true := by decide
  rw [show (200 : Int) % 256 = 200 from by decide] at e2
  unfold repAll
  rw [if_neg (by rw [List.length_append]; omega), e1, if_neg (by simp), e2, e4, if_neg (by simp), e3, if_neg (by omega), if_neg (by rw [List.length_append]; omega), e5, hrb, if_neg (by simp), hl0]
  simp only [Int.toNat_of_nonneg h0]
end Go.Proofs.Ytoblfdloakkmmaa.Pure
