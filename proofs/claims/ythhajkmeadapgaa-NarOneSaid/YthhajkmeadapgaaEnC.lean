/- nar: a tree's bytes; node. Own work. -/
import Derived.Test.YthhajkmeadapgaaEnB
namespace Go.Proofs.Ythhajkmeadapgaa.Tree
set_option linter.unusedVariables false
set_option linter.unusedSimpArgs false
open Go.RowKit Go.Proofs.Ythhajkmeadapgaa.PL Go.Proofs.Ythhajkmeadapgaa.Mn Go.Proofs.YthhajkmeadapgaaW.PrintWords Go.Proofs.YthhajkmeadapgaaW.PrintLast Go.Proofs.YthhajkmeadapgaaW.PrintMore
abbrev sL : ByteArray := { data := #[40] }
abbrev sR : ByteArray := { data := #[41] }
abbrev sType : ByteArray := { data := #[116, 121, 112, 101] }
abbrev sReg : ByteArray := { data := #[114, 101, 103, 117, 108, 97, 114] }
abbrev sExec : ByteArray := { data := #[101, 120, 101, 99, 117, 116, 97, 98, 108, 101] }
abbrev sEmpty : ByteArray := { data := #[] }
abbrev sCont : ByteArray := { data := #[99, 111, 110, 116, 101, 110, 116, 115] }
abbrev sSym : ByteArray := { data := #[115, 121, 109, 108, 105, 110, 107] }
abbrev sTarget : ByteArray := { data := #[116, 97, 114, 103, 101, 116] }
abbrev sDir : ByteArray := { data := #[100, 105, 114, 101, 99, 116, 111, 114, 121] }
abbrev sEntry : ByteArray := { data := #[101, 110, 116, 114, 121] }
abbrev sName : ByteArray := { data := #[110, 97, 109, 101] }
abbrev sNode : ByteArray := { data := #[110, 111, 100, 101] }
abbrev sMagic : ByteArray := { data := #[110, 105, 120, 45, 97, 114, 99, 104, 105, 118, 101, 45, 49] }
def entryB (s : ByteArray) (b : List Int) : List Int := txs [sEntry, sL, sName, s, sNode] ++ b ++ txs [sR]
def kidsB (f : S26 → List Int) : List ByteArray → List S26 → List Int
  | _, [] => []
  | ns, k :: ks => entryB (ns.headD ByteArray.empty) (f k) ++ kidsB f ns.tail ks
theorem kidsB_take (f : S26 → List Int) : ∀ (ks : List S26) (ns : List ByteArray) (i : Nat) (h : i < ks.length), kidsB f ns (ks.take (i + 1)) = kidsB f ns (ks.take i) ++ entryB (rdOf ByteArray.empty ns (i : Int)) (f ks[i]) := by
  intro ks
  induction ks with
  | nil => intro ns i h; simp at h
  | cons k ks ih =>
    intro ns i h
    cases i with
    | zero => cases ns <;> simp [kidsB, rdOf]
    | succ i =>
      have h' : i < ks.length := by simpa using h
      simp only [List.take_succ_cons, kidsB, List.getElem_cons_succ]
      rw [ih ns.tail i h', List.append_assoc]
      congr 3
      rw [rdOf_nat, rdOf_nat]
      cases ns <;> simp
theorem kidsB_append (f : S26 → List Int) : ∀ (a b : List S26) (ns : List ByteArray), kidsB f ns (a ++ b) = kidsB f ns a ++ kidsB f (ns.drop a.length) b := by
  intro a
  induction a with
  | nil => intro b ns; simp [kidsB]
  | cons k a ih =>
    intro b ns
    simp only [List.cons_append, kidsB, ih, List.length_cons, List.append_assoc]
    congr 3
    cases ns <;> simp
theorem kidsB_take_le (f : S26 → List Int) (ns : List ByteArray) (ks : List S26) (i : Nat) : (kidsB f ns (ks.take i)).length ≤ (kidsB f ns ks).length := by
  have h : kidsB f ns ks = kidsB f ns (ks.take i) ++ kidsB f (ns.drop (ks.take i).length) (ks.drop i) := by rw [← kidsB_append, List.take_append_drop]
  rw [h, List.length_append]
  omega
/-- a node's bytes -/
def nodeB : Nat → S26 → List Int
  | 0, _ => []
  | N + 1, t => txs [sL, sType] ++ (if t.f0 = 1 then txs [sReg] ++ (if t.f1 = true then txs [sExec, sEmpty] else []) ++ txs [sCont, strOfNums t.f2] else if t.f0 = 3 then txs [sSym, sTarget, strOfNums t.f2] else txs [sDir] ++ kidsB (nodeB N) t.f3 t.f4) ++ txs [sR]
/-- a tree that check has let by -/
def Okt : Nat → S26 → Prop
  | 0, _ => False
  | N + 1, t => formE t = 0 ∧ namesOK t.f3 ∧ ∀ u ∈ t.f4, Okt N u
theorem kidsC_ok (f : S26 → Nat → Int × Nat) : ∀ (l : List S26) (n : Nat), (kidsC f l n).1 = 0 → ∀ u ∈ l, ∃ m, (f u m).1 = 0 := by
  intro l
  induction l with
  | nil => intro n _ u hu; cases hu
  | cons a l ih =>
    intro n h u hu
    rw [kidsC] at h
    by_cases h0 : (f a n).1 ≠ 0
    · rw [if_pos h0] at h; exact absurd h h0
    · rw [if_neg h0] at h
      rcases List.mem_cons.1 hu with rfl | hu
      · exact ⟨n, Classical.not_not.1 h0⟩
      · exact ih _ h u hu
theorem chk_ok : ∀ (N : Nat) (t : S26) (deep n : Nat), GT N t → (chk N t deep n).1 = 0 → Okt N t := by
  intro N
  induction N with
  | zero => intro t deep n hG; exact hG.elim
  | succ N ih =>
    intro t deep n hG h
    obtain ⟨-, -, -, -, -, hK⟩ := hG
    rw [chk] at h
    split at h
    · cases h
    · split at h
      · rename_i q; exact absurd h q
      · rename_i q
        split at h
        · cases h
        · rename_i q3
          refine ⟨Classical.not_not.1 q, Classical.not_not.1 q3, fun u hu => ?_⟩
          obtain ⟨m, hm⟩ := kidsC_ok _ _ _ h u hu
          exact ih u _ _ (hK u hu) hm
theorem strs_C {W : World} {g t : Nat} {ss : List ByteArray} (h : W.heap[g]? = some (.cells (ss.map Value.string).toArray t (0, 0))) (hn : ss.length ≤ 9223372036854775807) : Kd.string.C W (some ⟨g, 0, none⟩) ss.length ss := by
  refine ⟨rfl, hn, fun _ => ⟨_, rfl, fun j s hj => ⟨[.string s], rfl, rfl, fun i u hu => ?_⟩⟩⟩
  cases i with
  | zero =>
    simp only [List.getElem?_cons_zero, Option.some.injEq] at hu
    subst hu
    have := blk_cell h j
    rw [show (Addr.add ⟨g, 0, none⟩ (j * Kd.string.sz + 0)) = ⟨g, j, none⟩ from by rw [add_plain]; show (Addr.mk g (j * 1 + 0) none) = _; rw [Nat.mul_one]; rfl]
    rw [this]
    simp [hj]
  | succ i => simp at hu
/-- what node's walk keeps -/
structure ND (F : Nat) (cap : Value) (I : (Nat → Prop) → List Int → World → Prop) (S : Nat → Prop) (w0 w : World) (p q : Nat) (cs : Array Value) (S' : Nat → Prop) (l : List Int) (wr : World) : Prop where
  i : I S' l wr
  k : Kb S w wr
  s : ∀ i, S' i → S i ∨ w.heap.size ≤ i
  hp : wr.heap[p]? = some (.cells #[.func (.func F) #[] #[cap]] 39 (0, 0))
  hq : wr.heap[q]? = some (.cells cs 26 (0, 0))
  np : ¬ S' p
  nq : ¬ S' q
  b : Below w0.heap.size w0 wr
  lo : ∀ i, S' i → w0.heap.size ≤ i
theorem ND.put {F : Nat} {cap : Value} {I : (Nat → Prop) → List Int → World → Prop} {S : Nat → Prop} {w0 w : World} {p q : Nat} {cs : Array Value} {S' S2 : Nat → Prop} {l l2 : List Int} {wr w2 : World}
    (h : ND F cap I S w0 w p q cs S' l wr) (h1 : I S2 l2 w2) (h2 : Kb S' wr w2) (h3 : ∀ k, S2 k → S' k ∨ wr.heap.size ≤ k) : ND F cap I S w0 w p q cs S2 l2 w2 :=
  ⟨h1, h.k.then_ h2 h.s, fun i hi => (h3 i hi).elim (h.s i) (fun g => .inr (by have := h.k.1.size; omega)), h2.blk h.hp h.np, h2.blk h.hq h.nq,
    fun hi => (h3 _ hi).elim h.np (fun g => by have := blk_lt h.hp; omega), fun hi => (h3 _ hi).elim h.nq (fun g => by have := blk_lt h.hq; omega),
    below_weaken h.b (Nat.le_refl _) (h2.below h.b.size h.lo), fun i hi => (h3 i hi).elim (h.lo i) (fun g => by have := h.b.size; omega)⟩
theorem ND.below {F : Nat} {cap : Value} {I : (Nat → Prop) → List Int → World → Prop} (hP : Puts F cap I) {S : Nat → Prop} {w0 w : World} {p q : Nat} {cs : Array Value} {S' : Nat → Prop} {l : List Int} {wr w2 : World}
    (h : ND F cap I S w0 w p q cs S' l wr) (hb : Below wr.heap.size wr w2) : ND F cap I S w0 w p q cs S' l w2 :=
  h.put (hP.below h.i hb) (Kb.of_below hb) (fun k hk => .inl hk)
/-- words, on texts laid in a new row -/
theorem words_lit {F : Nat} {cap : Value} {I : (Nat → Prop) → List Int → World → Prop} (hP : Puts F cap I) {S : Nat → Prop} {w0 w : World} {p q : Nat} {cs : Array Value} {S' : Nat → Prop} {l : List Int} {wr : World} (h : ND F cap I S w0 w p q cs S' l wr)
    (ss : List ByteArray) (t : Nat) (g n c : Nat) (args : Array Value) (hg : wr.heap.size = g) (hn : ss.length = n) (ha : #[.slice (some ⟨g, 0, none⟩) n c, .pointer (some ⟨p, 0, none⟩)] = args) (hss : ∀ s ∈ ss, s.size ≤ 140737488351232) (hn2 : n ≤ 1000) (hl : l.length + (txs ss).length ≤ 140737488355328) {R : Ending → World → Prop}
    (hR : ∀ S2 w2, ND F cap I S w0 w p q cs S2 (l ++ txs ss) w2 → Kb S' wr w2 → R (.returned (.tuple #[])) w2) :
    Calls Try.prog 65 args (wr.alloc (.cells (ss.map Value.string).toArray t)) R := by
  subst hg hn ha
  have hb := below_alloc (Below.refl wr.heap.size wr) (.cells (ss.map Value.string).toArray t)
  have h1 := h.below hP hb
  have hnew := heap_alloc_new wr (.cells (ss.map Value.string).toArray t)
  have hlt := hP.lt _ _ _ h.i
  refine (words_any hP S' l ss _ p (some ⟨wr.heap.size, 0, none⟩) c h1.i h1.hp h1.np (fun W hW => strs_C (hW.blk hnew (fun hs => by have := hlt _ hs; omega)) (by omega)) hss (by omega) hl).mono ?_
  rintro e w2 ⟨rfl, S2, hI2, hk2, hs2⟩
  exact hR S2 w2 (h1.put hI2 hk2 hs2) ((Kb.of_below hb).then_ hk2 (fun i hi => .inl hi))
end Go.Proofs.Ythhajkmeadapgaa.Tree
