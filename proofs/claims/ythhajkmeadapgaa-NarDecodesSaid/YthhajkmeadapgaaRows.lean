/-
  NARROWER THAN 'FOR EVERY INPUT', by the rows' own cells (each row's printed sentence says how): NarOne: loops · NarBack: loops · NarSplits: loops · NarCuts: loops · NarEncodes: loops · NarEights: loops.
  DERIVED. THE GIVEN ROWS OF THIS SEAT. 7 by the template 'for every input the law returns true; each argument reads behind the call as it read before'; 0 by the template 'total and deterministic' (their statements: YthhajkmeadapgaaTotals.lean).
  GIVEN WITH THE SEED: the statements are not yours to turn. If you find one false, say at which input.
  Laid BY PROGRAM, IN A SANDBOX (cutbox-rows.mjs): the forced cells as the released guide's own fill.sh prints them over the translation 1a812c9ee13238f0… (all of the seat's roots in one cut). By AI agents, Wed Nov 11 2026. No macro, syntax, notation, axiom, sorry.
-/
import Derived.Test.YthhajkmeadapgaaChecked
import GoSem.Claim
import GoSem.ClaimJoined
import GoSem.ClaimMapViews
import Derived.JoinedTies
import Derived.KernelRfl
namespace Go.Proofs.Ythhajkmeadapgaa
/- THE CELL 'sum', in the pinned program and in every row, IS THE sha256 OF THE DUMP (.gsa) THAT YthhajkmeadapgaaProg.lean LOADS. Nothing in Lean hashes anything: it is a label: what it is worth is what the hold of that sum in a sandbox is worth. -/
noncomputable def Try.pinned : Pinned := { name := "ythhajkmeadapgaa", sum := "1a812c9ee13238f0f9e874458faf00398bf880ee3db4bbb2f0a906a22ac210ba", checked := Try.checked }
namespace Rows
def none {H : Type} : Left H := { results := [], args := [] }

/-- 'pantrylaw5.NarOne': WHATEVER THE INPUT: true; the input reads as it did. -/
def narOneSpec : ChangeSpec := { name := "narOne", fn := fun _ => fun
  | [d1, d2] => { results := [.lit (.bool true)], args := [d1, d2] }
  | _ => none }
def narOneRow : OpenClaim := { program := "ythhajkmeadapgaa", sum := "1a812c9ee13238f0f9e874458faf00398bf880ee3db4bbb2f0a906a22ac210ba", func := "pantry/pantrylaw5.NarOne", spec := "narOne", inPlace := ["internal/bytealg.IndexByteString"], unfollowed := true, recurses := true, loops := true, apart := false }
def NarOneSaid : Prop := narOneRow.holds Try.pinned (OpenSpec.ofChange narOneSpec)

/-- ITS FALSE NEIGHBOUR: 'it returns false'. Refute it at one input. -/
def narOneWrong : ChangeSpec := { name := "narOne", fn := fun _ => fun
  | [d1, d2] => { results := [.lit (.bool false)], args := [d1, d2] }
  | _ => none }
def NarOneWrongFalsely : Prop := narOneRow.holds Try.pinned (OpenSpec.ofChange narOneWrong)

/-- 'pantrylaw5.NarDecodes': WHATEVER THE INPUT: true; the input reads as it did. -/
def narDecodesSpec : ChangeSpec := { name := "narDecodes", fn := fun _ => fun
  | [d] => { results := [.lit (.bool true)], args := [d] }
  | _ => none }
def narDecodesRow : OpenClaim := { program := "ythhajkmeadapgaa", sum := "1a812c9ee13238f0f9e874458faf00398bf880ee3db4bbb2f0a906a22ac210ba", func := "pantry/pantrylaw5.NarDecodes", spec := "narDecodes", inPlace := ["internal/bytealg.IndexByteString"], unfollowed := true, recurses := true, apart := false }
def NarDecodesSaid : Prop := narDecodesRow.holds Try.pinned (OpenSpec.ofChange narDecodesSpec)

/-- ITS FALSE NEIGHBOUR: 'it returns false'. Refute it at one input. -/
def narDecodesWrong : ChangeSpec := { name := "narDecodes", fn := fun _ => fun
  | [d] => { results := [.lit (.bool false)], args := [d] }
  | _ => none }
def NarDecodesWrongFalsely : Prop := narDecodesRow.holds Try.pinned (OpenSpec.ofChange narDecodesWrong)

/-- 'pantrylaw5.NarBack': WHATEVER THE INPUT: true; the input reads as it did. -/
def narBackSpec : ChangeSpec := { name := "narBack", fn := fun _ => fun
  | [d1, d2] => { results := [.lit (.bool true)], args := [d1, d2] }
  | _ => none }
def narBackRow : OpenClaim := { program := "ythhajkmeadapgaa", sum := "1a812c9ee13238f0f9e874458faf00398bf880ee3db4bbb2f0a906a22ac210ba", func := "pantry/pantrylaw5.NarBack", spec := "narBack", inPlace := ["internal/bytealg.IndexByteString"], unfollowed := true, recurses := true, loops := true, apart := false }
def NarBackSaid : Prop := narBackRow.holds Try.pinned (OpenSpec.ofChange narBackSpec)

/-- ITS FALSE NEIGHBOUR: 'it returns false'. Refute it at one input. -/
def narBackWrong : ChangeSpec := { name := "narBack", fn := fun _ => fun
  | [d1, d2] => { results := [.lit (.bool false)], args := [d1, d2] }
  | _ => none }
def NarBackWrongFalsely : Prop := narBackRow.holds Try.pinned (OpenSpec.ofChange narBackWrong)

/-- 'pantrylaw5.NarSplits': WHATEVER THE INPUT: true; the input reads as it did. -/
def narSplitsSpec : ChangeSpec := { name := "narSplits", fn := fun _ => fun
  | [d1, d2] => { results := [.lit (.bool true)], args := [d1, d2] }
  | _ => none }
def narSplitsRow : OpenClaim := { program := "ythhajkmeadapgaa", sum := "1a812c9ee13238f0f9e874458faf00398bf880ee3db4bbb2f0a906a22ac210ba", func := "pantry/pantrylaw5.NarSplits", spec := "narSplits", inPlace := ["internal/bytealg.IndexByteString"], unfollowed := true, recurses := true, loops := true, apart := false }
def NarSplitsSaid : Prop := narSplitsRow.holds Try.pinned (OpenSpec.ofChange narSplitsSpec)

/-- ITS FALSE NEIGHBOUR: 'it returns false'. Refute it at one input. -/
def narSplitsWrong : ChangeSpec := { name := "narSplits", fn := fun _ => fun
  | [d1, d2] => { results := [.lit (.bool false)], args := [d1, d2] }
  | _ => none }
def NarSplitsWrongFalsely : Prop := narSplitsRow.holds Try.pinned (OpenSpec.ofChange narSplitsWrong)

/-- 'pantrylaw5.NarCuts': WHATEVER THE INPUT: true; the input reads as it did. -/
def narCutsSpec : ChangeSpec := { name := "narCuts", fn := fun _ => fun
  | [d1, d2] => { results := [.lit (.bool true)], args := [d1, d2] }
  | _ => none }
def narCutsRow : OpenClaim := { program := "ythhajkmeadapgaa", sum := "1a812c9ee13238f0f9e874458faf00398bf880ee3db4bbb2f0a906a22ac210ba", func := "pantry/pantrylaw5.NarCuts", spec := "narCuts", inPlace := ["internal/bytealg.IndexByteString"], unfollowed := true, recurses := true, loops := true, apart := false }
def NarCutsSaid : Prop := narCutsRow.holds Try.pinned (OpenSpec.ofChange narCutsSpec)

/-- ITS FALSE NEIGHBOUR: 'it returns false'. Refute it at one input. -/
def narCutsWrong : ChangeSpec := { name := "narCuts", fn := fun _ => fun
  | [d1, d2] => { results := [.lit (.bool false)], args := [d1, d2] }
  | _ => none }
def NarCutsWrongFalsely : Prop := narCutsRow.holds Try.pinned (OpenSpec.ofChange narCutsWrong)

/-- 'pantrylaw5.NarEncodes': WHATEVER THE INPUT: true; the input reads as it did. -/
def narEncodesSpec : ChangeSpec := { name := "narEncodes", fn := fun _ => fun
  | [d] => { results := [.lit (.bool true)], args := [d] }
  | _ => none }
def narEncodesRow : OpenClaim := { program := "ythhajkmeadapgaa", sum := "1a812c9ee13238f0f9e874458faf00398bf880ee3db4bbb2f0a906a22ac210ba", func := "pantry/pantrylaw5.NarEncodes", spec := "narEncodes", inPlace := ["internal/bytealg.IndexByteString", "sync/atomic.LoadUint32", "sync/atomic.AddInt64", "sync/atomic.LoadInt64", "sync/atomic.StoreUint32", "(*internal/sync.Mutex).Lock", "internal/race.Disable", "sync/atomic.CompareAndSwapInt32", "internal/race.Enable", "internal/race.Acquire", "(*internal/sync.Mutex).lockSlow", "internal/sync.runtime_canSpin", "internal/sync.runtime_doSpin", "internal/sync.throw", "internal/sync.runtime_nanotime", "internal/sync.runtime_SemacquireMutex", "sync/atomic.AddInt32", "(*internal/sync.Mutex).Unlock", "internal/race.ReleaseMerge", "(*internal/sync.Mutex).unlockSlow", "internal/sync.fatal", "internal/sync.runtime_Semrelease"], unfollowed := true, recurses := true, loops := true, apart := false }
def NarEncodesSaid : Prop := narEncodesRow.holds Try.pinned (OpenSpec.ofChange narEncodesSpec)

/-- ITS FALSE NEIGHBOUR: 'it returns false'. Refute it at one input. -/
def narEncodesWrong : ChangeSpec := { name := "narEncodes", fn := fun _ => fun
  | [d] => { results := [.lit (.bool false)], args := [d] }
  | _ => none }
def NarEncodesWrongFalsely : Prop := narEncodesRow.holds Try.pinned (OpenSpec.ofChange narEncodesWrong)

/-- 'pantrylaw5.NarEights': WHATEVER THE INPUT: true; the input reads as it did. -/
def narEightsSpec : ChangeSpec := { name := "narEights", fn := fun _ => fun
  | [d] => { results := [.lit (.bool true)], args := [d] }
  | _ => none }
def narEightsRow : OpenClaim := { program := "ythhajkmeadapgaa", sum := "1a812c9ee13238f0f9e874458faf00398bf880ee3db4bbb2f0a906a22ac210ba", func := "pantry/pantrylaw5.NarEights", spec := "narEights", inPlace := ["internal/bytealg.IndexByteString", "sync/atomic.LoadUint32", "sync/atomic.AddInt64", "sync/atomic.LoadInt64", "sync/atomic.StoreUint32", "(*internal/sync.Mutex).Lock", "internal/race.Disable", "sync/atomic.CompareAndSwapInt32", "internal/race.Enable", "internal/race.Acquire", "(*internal/sync.Mutex).lockSlow", "internal/sync.runtime_canSpin", "internal/sync.runtime_doSpin", "internal/sync.throw", "internal/sync.runtime_nanotime", "internal/sync.runtime_SemacquireMutex", "sync/atomic.AddInt32", "(*internal/sync.Mutex).Unlock", "internal/race.ReleaseMerge", "(*internal/sync.Mutex).unlockSlow", "internal/sync.fatal", "internal/sync.runtime_Semrelease"], unfollowed := true, recurses := true, loops := true, apart := false }
def NarEightsSaid : Prop := narEightsRow.holds Try.pinned (OpenSpec.ofChange narEightsSpec)

/-- ITS FALSE NEIGHBOUR: 'it returns false'. Refute it at one input. -/
def narEightsWrong : ChangeSpec := { name := "narEights", fn := fun _ => fun
  | [d] => { results := [.lit (.bool false)], args := [d] }
  | _ => none }
def NarEightsWrongFalsely : Prop := narEightsRow.holds Try.pinned (OpenSpec.ofChange narEightsWrong)

/- THE SECOND FORM. 'bulk': how many values and letters a reading holds, each counted each time it is reached (what is shared counts as often as it is met; a slice's spare places count too). A statement '..UptoSaid' is the law's where the arguments, and the package variables that the reading takes, are together of bulk at most 1048576: NARROWER than '..Said'. Prove '..Said' where nothing that the law and all that it calls make is longer than what came in: it says more and counts as full. Else prove '..UptoSaid'. A law counts once. -/
mutual
def uptoBulk {H : Type} : DataW H → Nat
  | .lit (.string bytes) => bytes.length + 1
  | .lit _ => 1
  | .nil => 1
  | .ptr d => uptoBulk d + 1
  | .slice elems spare => uptoBulkAll elems + uptoBulkAll spare + 1
  | .agg parts => uptoBulkAll parts + 1
  | .iface _ d => uptoBulk d + 1
  | .map entries => uptoBulkEntries entries + 1
  | .held _ => 1
def uptoBulkAll {H : Type} : List (DataW H) → Nat
  | [] => 0
  | d :: r => uptoBulk d + uptoBulkAll r
def uptoBulkEntries {H : Type} : List (Lit × DataW H) → Nat
  | [] => 0
  | x :: r => uptoBulkEntry x + uptoBulkEntries r
def uptoBulkEntry {H : Type} : Lit × DataW H → Nat
  | (.string bytes, d) => bytes.length + uptoBulk d + 1
  | (_, d) => uptoBulk d + 1
 end
def uptoSmall : (H : Type) → List (DataW H) → Bool := fun _ ds => decide (uptoBulkAll ds ≤ 1048576)
def OpenSpec.upto (s : _root_.Go.ChangeSpec) : _root_.Go.OpenSpec := { _root_.Go.OpenSpec.ofChange s with cond := some uptoSmall }

/-- 'pantrylaw5.NarOne', WHERE WHAT IT READS IS OF BULK AT MOST 1048576: true; the input reads as it did. -/
def narOneUptoRow : OpenClaim := { program := "ythhajkmeadapgaa", sum := "1a812c9ee13238f0f9e874458faf00398bf880ee3db4bbb2f0a906a22ac210ba", func := "pantry/pantrylaw5.NarOne", spec := "narOne", inPlace := ["internal/bytealg.IndexByteString"], unfollowed := true, recurses := true, loops := true, apart := false, narrowed := true }
def NarOneUptoSaid : Prop := narOneUptoRow.holds Try.pinned (OpenSpec.upto narOneSpec)

/-- 'pantrylaw5.NarDecodes', WHERE WHAT IT READS IS OF BULK AT MOST 1048576: true; the input reads as it did. -/
def narDecodesUptoRow : OpenClaim := { program := "ythhajkmeadapgaa", sum := "1a812c9ee13238f0f9e874458faf00398bf880ee3db4bbb2f0a906a22ac210ba", func := "pantry/pantrylaw5.NarDecodes", spec := "narDecodes", inPlace := ["internal/bytealg.IndexByteString"], unfollowed := true, recurses := true, apart := false, narrowed := true }
def NarDecodesUptoSaid : Prop := narDecodesUptoRow.holds Try.pinned (OpenSpec.upto narDecodesSpec)

/-- 'pantrylaw5.NarBack', WHERE WHAT IT READS IS OF BULK AT MOST 1048576: true; the input reads as it did. -/
def narBackUptoRow : OpenClaim := { program := "ythhajkmeadapgaa", sum := "1a812c9ee13238f0f9e874458faf00398bf880ee3db4bbb2f0a906a22ac210ba", func := "pantry/pantrylaw5.NarBack", spec := "narBack", inPlace := ["internal/bytealg.IndexByteString"], unfollowed := true, recurses := true, loops := true, apart := false, narrowed := true }
def NarBackUptoSaid : Prop := narBackUptoRow.holds Try.pinned (OpenSpec.upto narBackSpec)

/-- 'pantrylaw5.NarSplits', WHERE WHAT IT READS IS OF BULK AT MOST 1048576: true; the input reads as it did. -/
def narSplitsUptoRow : OpenClaim := { program := "ythhajkmeadapgaa", sum := "1a812c9ee13238f0f9e874458faf00398bf880ee3db4bbb2f0a906a22ac210ba", func := "pantry/pantrylaw5.NarSplits", spec := "narSplits", inPlace := ["internal/bytealg.IndexByteString"], unfollowed := true, recurses := true, loops := true, apart := false, narrowed := true }
def NarSplitsUptoSaid : Prop := narSplitsUptoRow.holds Try.pinned (OpenSpec.upto narSplitsSpec)

/-- 'pantrylaw5.NarCuts', WHERE WHAT IT READS IS OF BULK AT MOST 1048576: true; the input reads as it did. -/
def narCutsUptoRow : OpenClaim := { program := "ythhajkmeadapgaa", sum := "1a812c9ee13238f0f9e874458faf00398bf880ee3db4bbb2f0a906a22ac210ba", func := "pantry/pantrylaw5.NarCuts", spec := "narCuts", inPlace := ["internal/bytealg.IndexByteString"], unfollowed := true, recurses := true, loops := true, apart := false, narrowed := true }
def NarCutsUptoSaid : Prop := narCutsUptoRow.holds Try.pinned (OpenSpec.upto narCutsSpec)

/-- 'pantrylaw5.NarEncodes', WHERE WHAT IT READS IS OF BULK AT MOST 1048576: true; the input reads as it did. -/
def narEncodesUptoRow : OpenClaim := { program := "ythhajkmeadapgaa", sum := "1a812c9ee13238f0f9e874458faf00398bf880ee3db4bbb2f0a906a22ac210ba", func := "pantry/pantrylaw5.NarEncodes", spec := "narEncodes", inPlace := ["internal/bytealg.IndexByteString", "sync/atomic.LoadUint32", "sync/atomic.AddInt64", "sync/atomic.LoadInt64", "sync/atomic.StoreUint32", "(*internal/sync.Mutex).Lock", "internal/race.Disable", "sync/atomic.CompareAndSwapInt32", "internal/race.Enable", "internal/race.Acquire", "(*internal/sync.Mutex).lockSlow", "internal/sync.runtime_canSpin", "internal/sync.runtime_doSpin", "internal/sync.throw", "internal/sync.runtime_nanotime", "internal/sync.runtime_SemacquireMutex", "sync/atomic.AddInt32", "(*internal/sync.Mutex).Unlock", "internal/race.ReleaseMerge", "(*internal/sync.Mutex).unlockSlow", "internal/sync.fatal", "internal/sync.runtime_Semrelease"], unfollowed := true, recurses := true, loops := true, apart := false, narrowed := true }
def NarEncodesUptoSaid : Prop := narEncodesUptoRow.holds Try.pinned (OpenSpec.upto narEncodesSpec)

/-- 'pantrylaw5.NarEights', WHERE WHAT IT READS IS OF BULK AT MOST 1048576: true; the input reads as it did. -/
def narEightsUptoRow : OpenClaim := { program := "ythhajkmeadapgaa", sum := "1a812c9ee13238f0f9e874458faf00398bf880ee3db4bbb2f0a906a22ac210ba", func := "pantry/pantrylaw5.NarEights", spec := "narEights", inPlace := ["internal/bytealg.IndexByteString", "sync/atomic.LoadUint32", "sync/atomic.AddInt64", "sync/atomic.LoadInt64", "sync/atomic.StoreUint32", "(*internal/sync.Mutex).Lock", "internal/race.Disable", "sync/atomic.CompareAndSwapInt32", "internal/race.Enable", "internal/race.Acquire", "(*internal/sync.Mutex).lockSlow", "internal/sync.runtime_canSpin", "internal/sync.runtime_doSpin", "internal/sync.throw", "internal/sync.runtime_nanotime", "internal/sync.runtime_SemacquireMutex", "sync/atomic.AddInt32", "(*internal/sync.Mutex).Unlock", "internal/race.ReleaseMerge", "(*internal/sync.Mutex).unlockSlow", "internal/sync.fatal", "internal/sync.runtime_Semrelease"], unfollowed := true, recurses := true, loops := true, apart := false, narrowed := true }
def NarEightsUptoSaid : Prop := narEightsUptoRow.holds Try.pinned (OpenSpec.upto narEightsSpec)

end Rows
end Go.Proofs.Ythhajkmeadapgaa
