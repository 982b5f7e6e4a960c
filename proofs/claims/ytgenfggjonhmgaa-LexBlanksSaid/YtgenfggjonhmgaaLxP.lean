/- lex: the lexer as a plain function of bytes. Own work. -/
import Derived.Test.YtgenfggjonhmgaaLxB
namespace Go.Proofs.Ytgenfggjonhmgaa.Lx
set_option linter.unusedVariables false
set_option linter.unusedSimpArgs false
open Go.RowKit Go.Proofs.Ytgenfggjonhmgaa.Ml Go.Proofs.Ytgenfggjonhmgaa.PL Go.Proofs.YtgenfggjonhmgaaW.PrintWords Go.Proofs.YtgenfggjonhmgaaW.PrintLast Go.Proofs.YtgenfggjonhmgaaW.PrintMore
def isWordB (t : ByteArray) : Bool := (lex_isWord.f t).getD false
def mostInt : ByteArray := ⟨#[57, 50, 50, 51, 51, 55, 50, 48, 51, 54, 56, 53, 52, 55, 55, 53, 56, 48, 55]⟩
def great (t : ByteArray) : Bool := decide (19 < t.size) || (decide (t.size = 19) && !(Op.bytesLess t.toList mostInt.toList || t.toList == mostInt.toList))
/-- the lexer's state -/
structure LS where
  i : Nat
  l : List S28
  m : List S42
  wr : Int
def nameS (s : ByteArray) (x : LS) : LS :=
  ⟨runTo isNam (bytesOf s) x.i, x.l ++ [⟨if isWordB (s.extract x.i (runTo isNam (bytesOf s) x.i)) = true then 3 else 2, s.extract x.i (runTo isNam (bytesOf s) x.i), (x.i : Int)⟩], x.m, x.wr⟩
def numT (s : ByteArray) (k : Nat) : ByteArray := s.extract k (runTo isDig (bytesOf s) k)
def numBad (s : ByteArray) (k : Nat) : Prop := great (numT s k) = true ∨ ((bytesOf (numT s k)).getD 0 0 = 48 ∧ 1 < (numT s k).size) ∨ (decide (runTo isDig (bytesOf s) k < s.size) && isLet ((bytesOf s).getD (runTo isDig (bytesOf s) k) 0)) = true
instance (s : ByteArray) (k : Nat) : Decidable (numBad s k) := by unfold numBad; infer_instance
def numberS (s : ByteArray) (x : LS) : LS :=
  if numBad s x.i then ⟨runTo isDig (bytesOf s) x.i, x.l, x.m, x.i⟩
  else ⟨runTo isDig (bytesOf s) x.i, x.l ++ [⟨1, numT s x.i, (x.i : Int)⟩], x.m, x.wr⟩
def textsOf (m : List S42) : Nat := (m.filter (fun q => q.f0)).length
def opensS (x : LS) : LS :=
  if 60 ≤ textsOf x.m then ⟨x.i, x.l, x.m, x.i⟩
  else ⟨x.i + 1, x.l ++ [⟨5, ⟨#[]⟩, (x.i : Int)⟩], x.m ++ [⟨true, (x.i : Int), 0⟩], x.wr⟩
def signL : List ByteArray := [⟨#[61, 61]⟩, ⟨#[33, 61]⟩, ⟨#[38, 38]⟩, ⟨#[124, 124]⟩, ⟨#[43, 43]⟩, ⟨#[47, 47]⟩, ⟨#[43]⟩, ⟨#[45]⟩, ⟨#[42]⟩, ⟨#[47]⟩, ⟨#[60]⟩, ⟨#[33]⟩, ⟨#[61]⟩, ⟨#[59]⟩, ⟨#[58]⟩, ⟨#[63]⟩, ⟨#[46]⟩, ⟨#[40]⟩, ⟨#[41]⟩, ⟨#[91]⟩, ⟨#[93]⟩, ⟨#[123]⟩, ⟨#[125]⟩]
def signAt (b : List UInt8) : Option ByteArray := signL.find? (fun t => Lib.hasPrefix b t.data.toList)
def topM (m : List S42) : S42 := m.getD (m.length - 1) z42
def bracesM (m : List S42) (t : ByteArray) : List S42 :=
  if m.length = 1 then m
  else if t = ⟨#[123]⟩ then m.set (m.length - 1) ⟨(topM m).f0, (topM m).f1, (topM m).f2 + 1⟩
  else if t = ⟨#[125]⟩ then (if (topM m).f2 = 0 then m.take (m.length - 1) else m.set (m.length - 1) ⟨(topM m).f0, (topM m).f1, (topM m).f2 - 1⟩)
  else m
def signS (s : ByteArray) (x : LS) : LS :=
  match signAt (s.extract x.i s.size).data.toList with
  | none => ⟨x.i, x.l, x.m, x.i⟩
  | some t => ⟨x.i + t.size, x.l ++ [⟨4, t, (x.i : Int)⟩], bracesM x.m t, x.wr⟩
def isEnd (c : Int) : Bool := c == 10
def codeS (s : ByteArray) (x : LS) : LS :=
  let c := (bytesOf s).getD x.i 0
  if c = 32 ∨ c = 9 ∨ c = 10 ∨ c = 13 then ⟨x.i + 1, x.l, x.m, x.wr⟩
  else if c = 35 then ⟨runTo (fun c => !isEnd c) (bytesOf s) x.i, x.l, x.m, x.wr⟩
  else if isLet c = true then nameS s x
  else if isDig c = true then numberS s x
  else if c = 34 then opensS x
  else signS s x
/-- what a byte behind a stroke stands for -/
def escB (c : Int) : Option Int := if c = 110 then some 10 else if c = 116 then some 9 else if c = 114 then some 13 else if c = 34 then some 34 else if c = 92 then some 92 else if c = 36 then some 36 else none
inductive TE where
  | shut (i : Nat) (a : List Int)
  | hole (i : Nat) (a : List Int)
  | bad (i : Nat)
  | ended (i : Nat)
def textE (b : List Int) : Nat → Nat → List Int → TE
  | 0, i, a => .ended i
  | n + 1, i, a =>
    if b.length ≤ i then .ended i
    else if b.getD i 0 = 34 then .shut i a
    else if b.getD i 0 = 36 ∧ b.getD (i + 1) 0 = 123 then .hole i a
    else if b.getD i 0 = 92 then (match escB (b.getD (i + 1) 0) with | none => .bad i | some d => textE b n (i + 2) (a ++ [d]))
    else textE b n (i + 1) (a ++ [b.getD i 0])
def pieceL (l : List S28) (a : List Int) (k : Nat) : List S28 := if a = [] then l else l ++ [⟨6, strOfNums a, (k : Int)⟩]
def textS (s : ByteArray) (x : LS) : LS :=
  match textE (bytesOf s) (s.size - x.i + 1) x.i [] with
  | .shut i a => ⟨i + 1, pieceL x.l a x.i ++ [⟨8, ⟨#[]⟩, (i : Int)⟩], x.m.take (x.m.length - 1), x.wr⟩
  | .hole i a => ⟨i + 2, pieceL x.l a x.i ++ [⟨7, ⟨#[]⟩, (i : Int)⟩], x.m ++ [⟨false, 0, 0⟩], x.wr⟩
  | .bad i => ⟨i, x.l, x.m, (i : Int)⟩
  | .ended i => ⟨i, x.l, x.m, x.wr⟩
def endsS (x : LS) : LS := ⟨x.i, x.l, x.m, if (topM x.m).f0 = true then (topM x.m).f1 else (x.m.getD (x.m.length - 2) z42).f1⟩
def goesOn (s : ByteArray) (x : LS) : Bool := decide (x.wr < 0) && (decide (x.i < s.size) || decide (1 < x.m.length))
def stepS (s : ByteArray) (x : LS) : LS :=
  if s.size ≤ x.i then endsS x else if (topM x.m).f0 = true then textS s x else codeS s x
def runS (s : ByteArray) : Nat → LS → LS
  | 0, x => x
  | n + 1, x => if goesOn s x = true then runS s n (stepS s x) else x
def startS : LS := ⟨0, [], [⟨false, 0, 0⟩], -1⟩
def endS (s : ByteArray) : LS := runS s (s.size + 2) startS
def lexS (s : ByteArray) : List S28 × Int × Int :=
  if 16384 < s.size then ([], 0, 5)
  else if 0 ≤ (endS s).wr then ([], (endS s).wr, 24)
  else ((endS s).l ++ [⟨9, ⟨#[]⟩, (s.size : Int)⟩], 0, 0)
end Go.Proofs.Ytgenfggjonhmgaa.Lx
