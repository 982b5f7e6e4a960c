/- lex: a text within another is read as it is alone (places apart). Own work. -/
import Derived.Test.YtgenfggjonhmgaaLxHo
namespace Go.Proofs.Ytgenfggjonhmgaa.Lx
set_option linter.unusedVariables false
set_option linter.unusedSimpArgs false
open Go.RowKit Go.Proofs.Ytgenfggjonhmgaa.Ml Go.Proofs.Ytgenfggjonhmgaa.PL Go.Proofs.YtgenfggjonhmgaaW.PrintWords Go.Proofs.YtgenfggjonhmgaaW.PrintLast Go.Proofs.YtgenfggjonhmgaaW.PrintMore
def key (t : S28) : Int × ByteArray := (t.f0, t.f1)
def mk (q : S42) : Bool × Int := (q.f0, q.f2)
/-- b lies in s at o; behind it stands nothing, or a line's end -/
structure Lies (b s : ByteArray) (o : Nat) (post : List UInt8) : Prop where
  dr : s.data.toList.drop o = b.data.toList ++ post
  po : post = [] ∨ ∃ t, post = 10 :: t
  le : o ≤ s.size
variable {b s : ByteArray} {o : Nat} {post : List UInt8}
theorem Lies.size (h : Lies b s o post) : s.size = o + b.size + post.length := by
  have := congrArg List.length h.dr
  rw [List.length_drop, List.length_append, data_length, data_length] at this
  have := h.le
  omega
theorem Lies.dropU (h : Lies b s o post) (k : Nat) (hk : k ≤ b.size) : s.data.toList.drop (k + o) = b.data.toList.drop k ++ post := by
  have := congrArg (List.drop k) h.dr
  rw [List.drop_drop, List.drop_append_of_le_length (by rw [data_length]; exact hk)] at this
  rw [Nat.add_comm k o]; exact this
theorem Lies.dropI (h : Lies b s o post) (k : Nat) (hk : k ≤ b.size) : (bytesOf s).drop (k + o) = (bytesOf b).drop k ++ post.map bI := by
  rw [drop_bytes s _ _ (h.dropU k hk), List.map_append, drop_bytes b k _ rfl]
theorem Lies.getD (h : Lies b s o post) (k : Nat) (hk : k < b.size) : (bytesOf s).getD (k + o) 0 = (bytesOf b).getD k 0 := by
  have h1 := h.dropI k (by omega)
  have hl : k < (bytesOf b).length := by rw [bytesOf_length]; exact hk
  rw [List.drop_eq_getElem_cons hl, List.cons_append] at h1
  rw [(getD_drop _ _ 0 _ _ h1).1, List.getD_eq_getElem?_getD, List.getElem?_eq_getElem hl]; rfl
theorem Lies.last (h : Lies b s o post) : ((bytesOf s).getD (b.size + o) 0 = 0 ∨ (bytesOf s).getD (b.size + o) 0 = 10) ∧ (bytesOf b).getD b.size 0 = 0 := by
  refine ⟨?_, ?_⟩
  · have h1 := h.dropI b.size (Nat.le_refl _)
    rw [show (bytesOf b).drop b.size = [] from List.drop_eq_nil_of_le (by rw [bytesOf_length]; exact Nat.le_refl _), List.nil_append] at h1
    rcases h.po with hp | ⟨t, hp⟩
    · left
      have := h.size
      rw [hp] at this
      rw [List.getD_eq_getElem?_getD, List.getElem?_eq_none (by rw [bytesOf_length]; simp at this; omega)]; rfl
    · right
      rw [hp] at h1
      exact (getD_drop _ _ 0 _ _ h1).1
  · rw [List.getD_eq_getElem?_getD, List.getElem?_eq_none (by rw [bytesOf_length]; exact Nat.le_refl _)]; rfl
theorem Lies.runTo (h : Lies b s o post) (p : Int → Bool) (hp : p 10 = false) (k : Nat) (hk : k ≤ b.size) : runTo p (bytesOf s) (k + o) = runTo p (bytesOf b) k + o := by
  unfold Lx.runTo
  rw [h.dropI k hk]
  have : (((bytesOf b).drop k ++ post.map bI).takeWhile p) = ((bytesOf b).drop k).takeWhile p := by
    generalize (bytesOf b).drop k = u
    induction u with
    | nil =>
      rcases h.po with hp' | ⟨t, hp'⟩
      · rw [hp']; rfl
      · rw [hp', List.nil_append, List.map_cons, List.takeWhile_cons, show bI 10 = 10 from rfl, hp]; rfl
    | cons c u ih => rw [List.cons_append, List.takeWhile_cons, List.takeWhile_cons, ih]
  rw [this]; omega
theorem Lies.extract (h : Lies b s o post) (k j : Nat) (hk : k ≤ b.size) (hj : j ≤ b.size) : s.extract (k + o) (j + o) = b.extract k j := by
  apply ba_ext
  rw [Lib.extract_data, Lib.extract_data, h.dropU k hk, show j + o - (k + o) = j - k by omega]
  rw [List.take_append_of_le_length (by rw [List.length_drop, data_length]; omega)]
theorem prefix_post (t u : List UInt8) (ht : ∀ c ∈ t, c ≠ 10) (hp : post = [] ∨ ∃ q, post = 10 :: q) : t.isPrefixOf (u ++ post) = t.isPrefixOf u := by
  induction t generalizing u with
  | nil => simp
  | cons c t ih =>
    cases u with
    | nil =>
      rcases hp with hp | ⟨q, hp⟩
      · rw [hp]; rfl
      · rw [hp, List.nil_append]
        have hc : (c == 10) = false := by simpa using ht c List.mem_cons_self
        simp [List.isPrefixOf, hc]
    | cons d u =>
      rw [List.cons_append]
      simp only [List.isPrefixOf]
      rw [ih u (fun c hc => ht c (List.mem_cons_of_mem _ hc))]
theorem sign_no10 : ∀ t ∈ signL, ∀ c ∈ t.data.toList, c ≠ 10 := by decide
theorem signAt_post (u : List UInt8) (hp : post = [] ∨ ∃ q, post = 10 :: q) : signAt (u ++ post) = signAt u := by
  unfold signAt
  have h : ∀ l : List ByteArray, (∀ t ∈ l, ∀ c ∈ t.data.toList, c ≠ 10) → l.find? (fun t => Lib.hasPrefix (u ++ post) t.data.toList) = l.find? (fun t => Lib.hasPrefix u t.data.toList) := by
    intro l
    induction l with
    | nil => intro _; rfl
    | cons t l ih =>
      intro hl
      have h1 : Lib.hasPrefix (u ++ post) t.data.toList = Lib.hasPrefix u t.data.toList := prefix_post _ _ (hl t List.mem_cons_self) hp
      rw [List.find?_cons, List.find?_cons, h1, ih (fun q hq => hl q (List.mem_cons_of_mem _ hq))]
  exact h signL sign_no10
theorem textE_succ (b : List Int) (n i : Nat) (a : List Int) : textE b (n + 1) i a = if b.length ≤ i then .ended i
    else if b.getD i 0 = 34 then .shut i a
    else if b.getD i 0 = 36 ∧ b.getD (i + 1) 0 = 123 then .hole i a
    else if b.getD i 0 = 92 then (match escB (b.getD (i + 1) 0) with | none => .bad i | some d => textE b n (i + 2) (a ++ [d]))
    else textE b n (i + 1) (a ++ [b.getD i 0]) := rfl
def TE.up (o : Nat) : TE → TE
  | .shut i a => .shut (i + o) a
  | .hole i a => .hole (i + o) a
  | .bad i => .bad (i + o)
  | .ended i => .ended (i + o)
theorem Lies.textE (h : Lies b s o post) : ∀ (n n' k : Nat) (a : List Int), k ≤ b.size → b.size - k < n → s.size - (k + o) < n' → (∀ j, Lx.textE (bytesOf b) n k a ≠ .ended j) →
    Lx.textE (bytesOf s) n' (k + o) a = (Lx.textE (bytesOf b) n k a).up o := by
  have hsz := h.size
  obtain ⟨hl1, hl2⟩ := h.last
  intro n
  induction n with
  | zero => intro n' k a _ hn; omega
  | succ n ih =>
    intro n' k a hk hn hn' hne
    obtain ⟨n', rfl⟩ : ∃ m, n' = m + 1 := ⟨n' - 1, by omega⟩
    have hbl := bytesOf_length b
    have hsl := bytesOf_length s
    have eb := textE_succ (bytesOf b) n k a
    by_cases hlt : k < b.size
    · have g := h.getD k hlt
      have es := textE_succ (bytesOf s) n' (k + o) a
      rw [if_neg (by omega)] at eb
      rw [if_neg (by omega), g] at es
      have gq : ((bytesOf s).getD (k + o + 1) 0 = 123 ↔ (bytesOf b).getD (k + 1) 0 = 123) ∧ escB ((bytesOf s).getD (k + o + 1) 0) = escB ((bytesOf b).getD (k + 1) 0) := by
        rw [show k + o + 1 = k + 1 + o by omega]
        by_cases h1 : k + 1 < b.size
        · rw [h.getD (k + 1) h1]; exact ⟨Iff.rfl, rfl⟩
        · have e : k + 1 = b.size := by omega
          rw [e, hl2]
          rcases hl1 with hl1 | hl1 <;> rw [hl1]
          · exact ⟨Iff.rfl, rfl⟩
          · exact ⟨by decide, rfl⟩
      by_cases h34 : (bytesOf b).getD k 0 = 34
      · rw [if_pos h34] at eb es
        rw [eb, es]; rfl
      · rw [if_neg h34] at eb es
        by_cases hho : (bytesOf b).getD k 0 = 36 ∧ (bytesOf b).getD (k + 1) 0 = 123
        · rw [if_pos hho] at eb
          rw [if_pos ⟨hho.1, gq.1.2 hho.2⟩] at es
          rw [eb, es]; rfl
        · rw [if_neg hho] at eb
          rw [if_neg (fun hh => hho ⟨hh.1, gq.1.1 hh.2⟩)] at es
          by_cases h92 : (bytesOf b).getD k 0 = 92
          · rw [if_pos h92] at eb es
            rw [gq.2] at es
            cases he : escB ((bytesOf b).getD (k + 1) 0) with
            | none =>
              rw [he] at eb es
              rw [eb, es]; rfl
            | some d =>
              rw [he] at eb es
              simp only at eb es
              have hlt2 : k + 1 < b.size := by
                rcases Nat.lt_or_ge (k + 1) b.size with h' | h'
                · exact h'
                · rw [List.getD_eq_getElem?_getD, List.getElem?_eq_none (by omega)] at he; cases he
              rw [eb] at hne ⊢
              rw [es, show k + o + 2 = k + 2 + o by omega]
              exact ih n' (k + 2) (a ++ [d]) (by omega) (by omega) (by omega) hne
          · rw [if_neg h92] at eb es
            rw [eb] at hne ⊢
            rw [es, show k + o + 1 = k + 1 + o by omega]
            exact ih n' (k + 1) _ (by omega) (by omega) (by omega) hne
    · exfalso
      rw [if_pos (by omega)] at eb
      exact hne k eb
/-! ### states that go side by side -/
/-- the modes: the first one is code's on both sides, the others alike but for their places -/
def MR (m m' : List S42) : Prop := ∃ hy ty hz tz, m = hy :: ty ∧ m' = hz :: tz ∧ hy.f0 = false ∧ hz.f0 = false ∧ tz.map mk = ty.map mk
structure Sim (o : Nat) (P : List (Int × ByteArray)) (y z : LS) : Prop where
  i : z.i = y.i + o
  l : z.l.map key = P ++ y.l.map key
  m : MR y.m z.m
  wy : y.wr < 0
  wz : z.wr < 0
theorem mk_len {ty tz : List S42} (h : tz.map mk = ty.map mk) : tz.length = ty.length := by
  have := congrArg List.length h
  simpa using this
theorem MR.len {m m' : List S42} (h : MR m m') : m'.length = m.length := by
  obtain ⟨hy, ty, hz, tz, rfl, rfl, -, -, h⟩ := h
  rw [List.length_cons, List.length_cons, mk_len h]
theorem mk_texts {ty tz : List S42} (h : tz.map mk = ty.map mk) : textsOf tz = textsOf ty := by
  induction ty generalizing tz with
  | nil => rw [List.map_nil, List.map_eq_nil_iff] at h; rw [h]
  | cons q ty ih =>
    cases tz with
    | nil => cases h
    | cons r tz =>
      rw [List.map_cons, List.map_cons] at h
      injection h with h1 h2
      have h3 : r.f0 = q.f0 := congrArg Prod.fst h1
      have := ih h2
      unfold textsOf at this ⊢
      rw [List.filter_cons, List.filter_cons, h3]
      split <;> simp [this]
theorem MR.texts {m m' : List S42} (h : MR m m') : textsOf m' = textsOf m := by
  obtain ⟨hy, ty, hz, tz, rfl, rfl, h1, h2, h⟩ := h
  have := mk_texts h
  unfold textsOf at this ⊢
  rw [List.filter_cons, List.filter_cons, h1, h2]
  exact this
theorem top_cons (h q : S42) (t : List S42) : topM (h :: q :: t) = topM (q :: t) := by
  unfold topM
  rw [show (h :: q :: t).length - 1 = (q :: t).length - 1 + 1 by simp, List.getD_cons_succ]
theorem mk_get {ty tz : List S42} (h : tz.map mk = ty.map mk) (k : Nat) : mk (tz.getD k z42) = mk (ty.getD k z42) := by
  have := congrArg (fun l => l[k]?) h
  simp only [List.getElem?_map] at this
  rw [List.getD_eq_getElem?_getD, List.getD_eq_getElem?_getD]
  cases h1 : tz[k]? with
  | none =>
    rw [h1] at this
    cases h2 : ty[k]? with
    | none => rfl
    | some b => rw [h2] at this; cases this
  | some a =>
    rw [h1] at this
    cases h2 : ty[k]? with
    | none => rw [h2] at this; cases this
    | some b => rw [h2] at this; exact Option.some.inj this
theorem mk_top {ty tz : List S42} (h : tz.map mk = ty.map mk) : mk (topM tz) = mk (topM ty) := by
  unfold topM
  rw [mk_len h]
  exact mk_get h _
/-- modes ahead of the first -/
def bracesT (t : List S42) (c : ByteArray) : List S42 :=
  if c = ⟨#[123]⟩ then t.set (t.length - 1) ⟨(topM t).f0, (topM t).f1, (topM t).f2 + 1⟩
  else if c = ⟨#[125]⟩ then (if (topM t).f2 = 0 then t.take (t.length - 1) else t.set (t.length - 1) ⟨(topM t).f0, (topM t).f1, (topM t).f2 - 1⟩)
  else t
theorem braces_cons (h q : S42) (t : List S42) (c : ByteArray) : bracesM (h :: q :: t) c = h :: bracesT (q :: t) c := by
  unfold bracesM bracesT
  rw [if_neg (by simp), top_cons, show (h :: q :: t).length - 1 = (q :: t).length - 1 + 1 by simp]
  split
  · rfl
  · split
    · split <;> rfl
    · rfl
theorem mk_braces {ty tz : List S42} (h : tz.map mk = ty.map mk) (c : ByteArray) : (bracesT tz c).map mk = (bracesT ty c).map mk := by
  have h1 := mk_top h
  have hl := mk_len h
  have e0 : (topM tz).f0 = (topM ty).f0 := congrArg Prod.fst h1
  have e2 : (topM tz).f2 = (topM ty).f2 := congrArg Prod.snd h1
  unfold bracesT
  rw [e0, e2, hl]
  split
  · rw [List.map_set, List.map_set, h]; rfl
  · split
    · split
      · rw [List.map_take, List.map_take, h]
      · rw [List.map_set, List.map_set, h]; rfl
    · exact h
theorem MR.braces {m m' : List S42} (h : MR m m') (c : ByteArray) : MR (bracesM m c) (bracesM m' c) := by
  obtain ⟨hy, ty, hz, tz, rfl, rfl, h1, h2, h⟩ := h
  cases ty with
  | nil =>
    have : tz = [] := List.map_eq_nil_iff.1 h
    subst this
    rw [show bracesM [hy] c = [hy] from if_pos rfl, show bracesM [hz] c = [hz] from if_pos rfl]
    exact ⟨hy, [], hz, [], rfl, rfl, h1, h2, rfl⟩
  | cons q ty =>
    cases tz with
    | nil => cases h
    | cons r tz =>
      rw [braces_cons, braces_cons]
      exact ⟨hy, _, hz, _, rfl, rfl, h1, h2, mk_braces h c⟩
theorem MR.top {m m' : List S42} (h : MR m m') : (topM m').f0 = (topM m).f0 := by
  obtain ⟨hy, ty, hz, tz, rfl, rfl, h1, h2, h⟩ := h
  cases ty with
  | nil =>
    have : tz = [] := List.map_eq_nil_iff.1 h
    subst this
    exact h2.trans h1.symm
  | cons q ty =>
    cases tz with
    | nil => cases h
    | cons r tz =>
      rw [top_cons, top_cons]
      exact congrArg Prod.fst (mk_top h)
theorem MR.pop {m m' : List S42} (h : MR m m') (ht : (topM m).f0 = true) : MR (m.take (m.length - 1)) (m'.take (m'.length - 1)) := by
  obtain ⟨hy, ty, hz, tz, rfl, rfl, h1, h2, h⟩ := h
  have hl := mk_len h
  cases ty with
  | nil =>
    exfalso
    rw [show topM [hy] = hy from rfl, h1] at ht
    cases ht
  | cons q ty =>
    cases tz with
    | nil => cases h
    | cons r tz =>
      refine ⟨hy, (q :: ty).take ((q :: ty).length - 1), hz, (r :: tz).take ((r :: tz).length - 1), rfl, rfl, h1, h2, ?_⟩
      rw [List.map_take, List.map_take, h, hl]
theorem MR.push {m m' : List S42} (h : MR m m') (q r : S42) (hq : mk r = mk q) : MR (m ++ [q]) (m' ++ [r]) := by
  obtain ⟨hy, ty, hz, tz, rfl, rfl, h1, h2, h⟩ := h
  exact ⟨hy, ty ++ [q], hz, tz ++ [r], rfl, rfl, h1, h2, by rw [List.map_append, List.map_append, h]; simp [hq]⟩
theorem keys_put {P : List (Int × ByteArray)} {l l' : List S28} (h : l'.map key = P ++ l.map key) (k : Int) (t : ByteArray) (p p' : Int) : (l' ++ [(⟨k, t, p'⟩ : S28)]).map key = P ++ (l ++ [(⟨k, t, p⟩ : S28)]).map key := by
  rw [List.map_append, List.map_append, h, List.append_assoc]; rfl
variable {P : List (Int × ByteArray)} {y z : LS}
theorem sim_code (h : Lies b s o post) (hO : Okl b y) (hS : Sim o P y z) (hlt : y.i < b.size) (hw : (codeS b y).wr < 0) : Sim o P (codeS b y) (codeS s z) := by
  obtain ⟨zi, zl, zm, zw⟩ := z
  obtain ⟨yi, yl, ym, yw⟩ := y
  obtain ⟨e1, e2, e3, e4, e5⟩ := hS
  simp only at e1 e2 e3 e4 e5 hlt
  subst e1
  have g := h.getD yi hlt
  have hle : yi ≤ b.size := by omega
  unfold codeS at hw ⊢
  simp only at hw ⊢
  rw [g]
  by_cases c1 : (bytesOf b).getD yi 0 = 32 ∨ (bytesOf b).getD yi 0 = 9 ∨ (bytesOf b).getD yi 0 = 10 ∨ (bytesOf b).getD yi 0 = 13
  · simp only [if_pos c1] at hw ⊢
    exact ⟨by show yi + o + 1 = yi + 1 + o; omega, e2, e3, e4, e5⟩
  simp only [if_neg c1] at hw ⊢
  by_cases c2 : (bytesOf b).getD yi 0 = 35
  · simp only [if_pos c2] at hw ⊢
    exact ⟨h.runTo (fun c => !isEnd c) rfl yi hle, e2, e3, e4, e5⟩
  simp only [if_neg c2] at hw ⊢
  by_cases c3 : isLet ((bytesOf b).getD yi 0) = true
  · simp only [if_pos c3] at hw ⊢
    have hr := h.runTo isNam rfl yi hle
    have hb := runTo_le isNam (bytesOf b) yi (by rw [bytesOf_length]; exact hle)
    rw [bytesOf_length] at hb
    have hx := h.extract yi (runTo isNam (bytesOf b) yi) hle hb.2
    unfold nameS
    simp only
    rw [hr, hx]
    exact ⟨rfl, keys_put e2 _ _ _ _, e3, e4, e5⟩
  simp only [if_neg c3] at hw ⊢
  by_cases c4 : isDig ((bytesOf b).getD yi 0) = true
  · simp only [if_pos c4] at hw ⊢
    have hr := h.runTo isDig rfl yi hle
    have hb := runTo_le isDig (bytesOf b) yi (by rw [bytesOf_length]; exact hle)
    rw [bytesOf_length] at hb
    have hx : numT s (yi + o) = numT b yi := by
      unfold numT
      rw [hr]
      exact h.extract yi (runTo isDig (bytesOf b) yi) hle hb.2
    have hbad : ¬ numBad b yi := by
      intro hbad
      rw [numberS_no hbad] at hw
      have hw' : (yi : Int) < 0 := hw
      omega
    have hbad' : ¬ numBad s (yi + o) := by
      intro hq
      refine hbad ?_
      unfold numBad at hq ⊢
      rw [hx, hr] at hq
      rcases hq with hq | hq | hq
      · exact .inl hq
      · exact .inr (.inl hq)
      · right; right
        rw [Bool.and_eq_true, decide_eq_true_eq] at hq ⊢
        rcases Nat.lt_or_ge (runTo isDig (bytesOf b) yi) b.size with h1 | h1
        · rw [h.getD _ h1] at hq
          exact ⟨h1, hq.2⟩
        · exfalso
          have e : runTo isDig (bytesOf b) yi = b.size := by omega
          rw [e] at hq
          rcases h.last.1 with h2 | h2 <;> rw [h2] at hq <;> exact absurd hq.2 (by decide)
    rw [numberS_ok hbad, numberS_ok hbad', hx, hr]
    exact ⟨rfl, keys_put e2 _ _ _ _, e3, e4, e5⟩
  simp only [if_neg c4] at hw ⊢
  by_cases c5 : (bytesOf b).getD yi 0 = 34
  · simp only [if_pos c5] at hw ⊢
    unfold opensS at hw ⊢
    simp only at hw ⊢
    rw [e3.texts]
    by_cases h60 : 60 ≤ textsOf ym
    · rw [if_pos h60] at hw
      have hw' : (yi : Int) < 0 := hw
      omega
    · simp only [if_neg h60]
      exact ⟨by show yi + o + 1 = yi + 1 + o; omega, keys_put e2 _ _ _ _, e3.push _ _ rfl, e4, e5⟩
  simp only [if_neg c5] at hw ⊢
  have hsg : signAt (s.extract (yi + o) s.size).data.toList = signAt (b.extract yi b.size).data.toList := by
    rw [to_end, to_end, h.dropU yi hle, signAt_post _ h.po]
  unfold signS at hw ⊢
  simp only at hw ⊢
  rw [hsg]
  cases hq : signAt (b.extract yi b.size).data.toList with
  | none =>
    rw [hq] at hw
    have hw' : (yi : Int) < 0 := hw
    omega
  | some t =>
    exact ⟨by show yi + o + t.size = yi + t.size + o; omega, keys_put e2 _ _ _ _, e3.braces t, e4, e5⟩
theorem keys_piece {l l' : List S28} (h : l'.map key = P ++ l.map key) (a : List Int) (k k' : Nat) : (pieceL l' a k').map key = P ++ (pieceL l a k).map key := by
  unfold pieceL
  split
  · exact h
  · exact keys_put h _ _ _ _
theorem sim_text (h : Lies b s o post) (hO : Okl b y) (hS : Sim o P y z) (hlt : y.i < b.size) (ht : (topM y.m).f0 = true) (hw : (textS b y).wr < 0) (hE : ∀ j, textE (bytesOf b) (b.size - y.i + 1) y.i [] ≠ .ended j) : Sim o P (textS b y) (textS s z) := by
  obtain ⟨zi, zl, zm, zw⟩ := z
  obtain ⟨yi, yl, ym, yw⟩ := y
  obtain ⟨e1, e2, e3, e4, e5⟩ := hS
  simp only at e1 e2 e3 e4 e5 hlt ht hE
  subst e1
  have hT := h.textE (b.size - yi + 1) (s.size - (yi + o) + 1) yi [] (by omega) (by omega) (by omega) hE
  unfold textS at hw ⊢
  simp only at hw ⊢
  rw [hT]
  cases hq : textE (bytesOf b) (b.size - yi + 1) yi [] with
  | shut j a => exact ⟨by show j + o + 1 = j + 1 + o; omega, keys_put (keys_piece e2 a _ _) _ _ _ _, e3.pop ht, e4, e5⟩
  | hole j a => exact ⟨by show j + o + 2 = j + 2 + o; omega, keys_put (keys_piece e2 a _ _) _ _ _ _, e3.push _ _ rfl, e4, e5⟩
  | bad j =>
    rw [hq] at hw
    have hw' : (j : Int) < 0 := hw
    omega
  | ended j => exact absurd hq (hE j)
/-! ### the whole run -/
inductive Star (s : ByteArray) : LS → LS → Prop
  | refl (x : LS) : Star s x x
  | step {x y : LS} : goesOn s x = true → Star s (stepS s x) y → Star s x y
theorem Star.trans {s : ByteArray} {x y z : LS} (h : Star s x y) (k : Star s y z) : Star s x z := by
  induction h with
  | refl => exact k
  | step hg _ ih => exact .step hg (ih k)
theorem Star.run {s : ByteArray} {x y : LS} (h : Star s x y) (hO : Okl s x) (hy : goesOn s y = false) : ∀ n, mu s x ≤ n → runS s n x = y := by
  induction h with
  | refl => intro n _; exact run_stop hy
  | step hg _ ih =>
    intro n hn
    have hs := step_ok hO hg
    obtain ⟨n, rfl⟩ : ∃ m, n = m + 1 := ⟨n - 1, by have := hs.mu; omega⟩
    rw [run_step hg]
    exact ih hs.ok hy n (by have := hs.mu; omega)
theorem run_bad {s : ByteArray} {x : LS} (h : 0 ≤ x.wr) (n : Nat) : (runS s n x).wr = x.wr := by rw [run_stop (goes_bad h)]
theorem sim_run (h : Lies b s o post) : ∀ (n : Nat) (y z : LS), Okl b y → mu b y ≤ n → Sim o P y z → (runS b n y).wr < 0 → ∃ z', Star s z z' ∧ Sim o P (runS b n y) z' := by
  intro n
  induction n with
  | zero => intro y z _ hm hS _; exact ⟨z, .refl z, hS⟩
  | succ n ih =>
    intro y z hO hm hS hw
    by_cases hg : goesOn b y = true
    · have hs := step_ok hO hg
      rw [run_step hg] at hw ⊢
      have hw1 : (stepS b y).wr < 0 := by
        rcases Int.lt_or_le (stepS b y).wr 0 with h1 | h1
        · exact h1
        · rw [run_bad h1] at hw; omega
      have hlt : y.i < b.size := by
        rcases Nat.lt_or_ge y.i b.size with h1 | h1
        · exact h1
        · exfalso
          have he : stepS b y = endsS y := by unfold stepS; rw [if_pos h1]
          have hm1 : 1 < y.m.length := by
            unfold goesOn at hg
            rw [Bool.and_eq_true, Bool.or_eq_true, decide_eq_true_eq, decide_eq_true_eq, decide_eq_true_eq] at hg
            rcases hg.2 with h2 | h2 <;> omega
          have := (ends_ok hO hS.wy h1 hm1).wr
          rw [← he] at this
          rcases this with h2 | h2
          · have h3 := (ends_ok hO hS.wy h1 hm1).mu
            have hwy := hS.wy
            rw [← he] at h3
            have h4 : (stepS b y).i = y.i := by rw [he]; rfl
            unfold mu at h3
            rw [if_pos hw1, if_pos hwy, h4] at h3
            omega
          · omega
      have hgz : goesOn s z = true := goes_in hS.wz (by rw [hS.i, h.size]; omega)
      have hzt := hS.m.top
      have hn := hs.mu
      have hS' : Sim o P (stepS b y) (stepS s z) := by
        by_cases ht : (topM y.m).f0 = true
        · have e1 : stepS b y = textS b y := step_text hlt ht
          have e2 : stepS s z = textS s z := step_text (by rw [hS.i, h.size]; omega) (by rw [hzt]; exact ht)
          rw [e1, e2]
          rw [e1] at hw1 hw
          refine sim_text h hO hS hlt ht hw1 (fun j hj => ?_)
          -- a text that does not end: it errs at the next step
          have hok := textE_ok (bytesOf b) (b.size - y.i + 1) y.i [] (by rw [bytesOf_length]; omega) (by rw [bytesOf_length]; omega)
          rw [hj] at hok
          simp only [bytesOf_length] at hok
          have et : textS b y = ⟨j, y.l, y.m, y.wr⟩ := by unfold textS; rw [hj]
          rw [e1] at hs
          have hO2 := hs.ok
          rw [e1, et] at hn
          rw [et] at hw hO2
          have hm2 : 1 < y.m.length := by
            obtain ⟨hy, ty, hz, tz, e, -, h1, -, -⟩ := hS.m
            rw [e] at ht ⊢
            cases ty with
            | nil => rw [show topM [hy] = hy from rfl, h1] at ht; cases ht
            | cons q ty => simp
          have hg2 : goesOn b ⟨j, y.l, y.m, y.wr⟩ = true := by
            unfold goesOn
            rw [decide_eq_true hS.wy, decide_eq_true (show 1 < y.m.length from hm2)]; simp
          have hmu2 : mu b ⟨j, y.l, y.m, y.wr⟩ ≤ n := by omega
          obtain ⟨n, rfl⟩ : ∃ m, n = m + 1 := ⟨n - 1, by have := mu_pos (s := b) (x := ⟨j, y.l, y.m, y.wr⟩) hS.wy; omega⟩
          rw [run_step hg2] at hw
          have he : stepS b ⟨j, y.l, y.m, y.wr⟩ = endsS ⟨j, y.l, y.m, y.wr⟩ := by unfold stepS; rw [if_pos (by show b.size ≤ j; omega)]
          have h0 : 0 ≤ (endsS ⟨j, y.l, y.m, y.wr⟩).wr := by
            show (0 : Int) ≤ (if (topM y.m).f0 = true then (topM y.m).f1 else (y.m.getD (y.m.length - 2) z42).f1)
            rw [if_pos ht]
            exact hO2.at_ (topM y.m) (top_mem _ hO2.m0)
          rw [he, run_bad h0] at hw
          omega
        · have ht' : (topM y.m).f0 = false := by simpa using ht
          have e1 : stepS b y = codeS b y := step_code hlt ht'
          have e2 : stepS s z = codeS s z := step_code (by rw [hS.i, h.size]; omega) (by rw [hzt]; exact ht')
          rw [e1, e2]
          rw [e1] at hw1
          exact sim_code h hO hS hlt hw1
      obtain ⟨z', hz1, hz2⟩ := ih (stepS b y) (stepS s z) hs.ok (by omega) hS' hw
      exact ⟨z', .step hgz hz1, hz2⟩
    · have hg' : goesOn b y = false := by simpa using hg
      rw [run_stop hg'] at hw ⊢
      exact ⟨z, .refl z, hS⟩
def sepU : List UInt8 := [10, 9, 35, 32, 97, 32, 114, 101, 109, 97, 114, 107, 32, 34, 32, 36, 123, 32, 10, 32]
/-- the line's end, the remark, the blanks between -/
theorem run_sep (s : ByteArray) (k : Nat) (l : List S28) (m : List S42) (w : Int) (rest : List UInt8) (h : s.data.toList.drop k = sepU ++ rest) (hw : w < 0) (ht : (topM m).f0 = false) : Star s ⟨k, l, m, w⟩ ⟨k + 20, l, m, w⟩ := by
  have hlen := congrArg List.length h
  rw [List.length_drop, data_length, List.length_append] at hlen
  have hls : sepU.length = 20 := rfl
  have hat : ∀ j, j < 20 → (bytesOf s).getD (k + j) 0 = (sepU.map bI).getD j 0 := by
    intro j hj
    have h1 := drop_bytes s k _ h
    have h2 : (bytesOf s).getD (k + j) 0 = ((bytesOf s).drop k).getD j 0 := by simp [List.getD_eq_getElem?_getD]
    rw [h2, h1, List.map_append, List.getD_eq_getElem?_getD, List.getElem?_append_left (by rw [List.length_map, hls]; exact hj), ← List.getD_eq_getElem?_getD]
  have go : ∀ j, j < 20 → goesOn s ⟨k + j, l, m, w⟩ = true := fun j hj => goes_in hw (by show k + j < s.size; omega)
  have bl : ∀ j, j < 20 → ((sepU.map bI).getD j 0 = 32 ∨ (sepU.map bI).getD j 0 = 9 ∨ (sepU.map bI).getD j 0 = 10 ∨ (sepU.map bI).getD j 0 = 13) → stepS s ⟨k + j, l, m, w⟩ = ⟨k + (j + 1), l, m, w⟩ := by
    intro j hj hb
    rw [step_code (by show k + j < s.size; omega) ht, code_blank (by rw [hat j hj]; exact hb)]
    show (⟨k + j + 1, l, m, w⟩ : LS) = _
    rw [Nat.add_assoc]
  have rm : stepS s ⟨k + 2, l, m, w⟩ = ⟨k + 18, l, m, w⟩ := by
    have h2 := drop_bytes s (k + 2) ([35, 32, 97, 32, 114, 101, 109, 97, 114, 107, 32, 34, 32, 36, 123, 32] ++ (10 :: 32 :: rest)) (by
      have := congrArg (List.drop 2) h
      rw [List.drop_drop] at this
      exact this)
    have hr : runTo (fun c => !isEnd c) (bytesOf s) (k + 2) = k + 2 + 16 :=
      runTo_drop (fun c => !isEnd c) (bytesOf s) ([35, 32, 97, 32, 114, 101, 109, 97, 114, 107, 32, 34, 32, 36, 123, 32].map bI) ((10 :: 32 :: rest).map bI) (k + 2) (by rw [h2, List.map_append]) (by decide) (by intro c t e; injection e with e _; rw [← e]; rfl)
    rw [step_code (by show k + 2 < s.size; omega) ht]
    unfold codeS
    simp only [hat 2 (by decide)]
    rw [show (sepU.map bI).getD 2 0 = 35 from rfl, if_neg (by decide), if_pos rfl, hr]
  refine .step (go 0 (by decide)) ?_
  rw [show stepS s ⟨k, l, m, w⟩ = ⟨k + 1, l, m, w⟩ from bl 0 (by decide) (by decide)]
  refine .step (go 1 (by decide)) ?_
  rw [bl 1 (by decide) (by decide)]
  refine .step (go 2 (by decide)) ?_
  rw [rm]
  refine .step (go 18 (by decide)) ?_
  rw [bl 18 (by decide) (by decide)]
  refine .step (go 19 (by decide)) ?_
  rw [bl 19 (by decide) (by decide)]
  exact .refl _
theorem lex_ok {s : ByteArray} (h : s.size ≤ 16384) (e : (lexS s).2.2 = 0) : (endS s).wr < 0 ∧ (endS s).i = s.size ∧ (endS s).m.length = 1 ∧ lexS s = ((endS s).l ++ [⟨9, ⟨#[]⟩, (s.size : Int)⟩], 0, 0) := by
  have hx := lexS_of h rfl
  by_cases hw : 0 ≤ (endS s).wr
  · rw [hx, if_pos hw] at e; cases e
  · rw [if_neg hw] at hx
    have hE := (end_ind h (fun _ => True) trivial (fun _ _ _ _ => trivial)).2
    have hO := hE.1
    have hg := hE.2
    unfold goesOn at hg
    rw [decide_eq_true (show (endS s).wr < 0 by omega), Bool.true_and, Bool.or_eq_false_iff, decide_eq_false_iff_not, decide_eq_false_iff_not] at hg
    have := hO.le
    have := hO.m0
    exact ⟨by omega, by omega, by omega, hx⟩
theorem lex_blanks (a b : ByteArray) (hl : a.size + b.size ≤ 2000) (ha : (lexS a).2.2 = 0) (hb : (lexS b).2.2 = 0) :
    ∃ l m n : List S28, lexS a = (l, 0, 0) ∧ lexS b = (m, 0, 0) ∧ lexS ((a ++ ofL sepU) ++ b) = (n, 0, 0) ∧ 1 ≤ l.length ∧ 1 ≤ m.length ∧ n.length = l.length - 1 + m.length ∧ n.map key = (l.take (l.length - 1)).map key ++ m.map key := by
  obtain ⟨a1, a2, a3, a4⟩ := lex_ok (by omega) ha
  obtain ⟨b1, b2, b3, b4⟩ := lex_ok (by omega) hb
  obtain ⟨s, hs⟩ : ∃ s, (a ++ ofL sepU) ++ b = s := ⟨_, rfl⟩
  have hd : s.data.toList = a.data.toList ++ (sepU ++ b.data.toList) := by
    rw [← hs, ByteArray.data_append, ByteArray.data_append, Array.toList_append, Array.toList_append, List.append_assoc]; rfl
  have hsz : s.size = a.size + 20 + b.size := by
    rw [← data_length, hd, List.length_append, List.length_append, data_length, data_length]
    show a.size + (20 + b.size) = _; omega
  have hO : Okl s startS := start_ok (by omega)
  have hLa : Lies a s 0 (sepU ++ b.data.toList) := ⟨by rw [List.drop_zero]; exact hd, .inr ⟨_, rfl⟩, Nat.zero_le _⟩
  have hLb : Lies b s (a.size + 20) [] := ⟨by
    rw [hd, ← List.append_assoc, List.append_nil]
    have : (a.data.toList ++ sepU).length = a.size + 20 := by rw [List.length_append, data_length]; rfl
    rw [← this, List.drop_left], .inl rfl, by omega⟩
  have hS0 : Sim 0 [] startS startS := ⟨rfl, rfl, ⟨_, [], _, [], rfl, rfl, rfl, rfl, rfl⟩, by decide, by decide⟩
  obtain ⟨z1, s1, m1⟩ := sim_run hLa (a.size + 2) startS startS (start_ok (by omega)) (by unfold mu startS; simp) hS0 a1
  obtain ⟨i1, l1, r1, -, w1⟩ := m1
  have i1 : z1.i = a.size := by rw [i1, Nat.add_zero]; exact a2
  have l1 : z1.l.map key = (endS a).l.map key := l1
  have hm1 : z1.m.length = 1 := by rw [MR.len r1]; exact a3
  obtain ⟨hy, ty, hz, tz, e1, e2, f1, f2, g1⟩ := r1
  have htz : tz = [] := by rw [e2] at hm1; simpa using hm1
  have s2 : Star s z1 ⟨a.size + 20, z1.l, z1.m, z1.wr⟩ := by
    have := run_sep s a.size z1.l z1.m z1.wr b.data.toList (by rw [hd, ← data_length a, List.drop_left]) w1 (by rw [e2, htz]; exact f2)
    have e : (⟨a.size, z1.l, z1.m, z1.wr⟩ : LS) = z1 := by rw [← i1]
    rw [e] at this
    exact this
  have hS1 : Sim (a.size + 20) (z1.l.map key) startS ⟨a.size + 20, z1.l, z1.m, z1.wr⟩ := ⟨(Nat.zero_add _).symm, (List.append_nil _).symm, ⟨_, [], _, [], rfl, by show z1.m = _; rw [e2, htz], rfl, f2, rfl⟩, by decide, w1⟩
  obtain ⟨z2, s3, m2⟩ := sim_run hLb (b.size + 2) startS _ (start_ok (by omega)) (by unfold mu startS; simp) hS1 b1
  obtain ⟨i2, l2, r2, -, w2⟩ := m2
  have i2 : z2.i = s.size := by
    have : z2.i = (endS b).i + (a.size + 20) := i2
    rw [this, b2, hsz]; omega
  have hm2 : z2.m.length = 1 := by rw [MR.len r2]; exact b3
  have hst := (s1.trans (s2.trans s3)).run hO (goes_end (by omega) (by omega)) (s.size + 2) (by unfold mu startS; simp)
  have hE : endS s = z2 := hst
  have hx := lexS_of (s := s) (by omega) hE
  rw [if_neg (by omega)] at hx
  refine ⟨_, _, _, a4, b4, by rw [hs]; exact hx, by simp, by simp, ?_, ?_⟩
  · have q1 : z2.l.length = (endS a).l.length + (endS b).l.length := by
      have h1 := congrArg List.length l2
      have h2 := congrArg List.length l1
      rw [List.length_map, List.length_append, List.length_map, List.length_map] at h1
      rw [List.length_map, List.length_map] at h2
      rw [h1, h2]; rfl
    simp only [List.length_append, List.length_singleton]
    omega
  · rw [List.length_append, List.length_singleton, Nat.add_sub_cancel, List.take_left, List.map_append, List.map_append, l2, l1, List.append_assoc]
    rfl
end Go.Proofs.Ytgenfggjonhmgaa.Lx
