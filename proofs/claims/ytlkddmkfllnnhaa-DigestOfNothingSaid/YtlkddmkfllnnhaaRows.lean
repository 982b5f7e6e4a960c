/-
  No cell of these rows narrows 'for every input' (looked for: loops, veiled, ifaces, maps, wideKeys, modest, calm, conditions, laid).
  DERIVED. THE GIVEN ROWS OF THIS SEAT. 6 by the template 'for every input the law returns true; each argument reads behind the call as it read before'; 0 by the template 'total and deterministic' (their statements: YtlkddmkfllnnhaaTotals.lean).
  GIVEN WITH THE SEED: the statements are not yours to turn. If you find one false, say at which input.
  Laid BY PROGRAM, IN A SANDBOX (cutbox-rows.mjs): the forced cells as the released guide's own fill.sh prints them over the translation 7ed0ee1458f6f6c5… (all of the seat's roots in one cut). By AI agents, Wed Nov 11 2026. No macro, syntax, notation, axiom, sorry.
-/
import Derived.Test.YtlkddmkfllnnhaaChecked
import GoSem.Claim
import GoSem.ClaimJoined
import GoSem.ClaimMapViews
import Derived.JoinedTies
import Derived.KernelRfl
namespace Go.Proofs.Ytlkddmkfllnnhaa
/- THE CELL 'sum', in the pinned program and in every row, IS THE sha256 OF THE DUMP (.gsa) THAT YtlkddmkfllnnhaaProg.lean LOADS. Nothing in Lean hashes anything: it is a label: what it is worth is what the hold of that sum in a sandbox is worth. -/
noncomputable def Try.pinned : Pinned := { name := "ytlkddmkfllnnhaa", sum := "7ed0ee1458f6f6c57be3df5d73241c22ed00379ccb47da1c9c26dc322b58f335", checked := Try.checked }
namespace Rows
def none {H : Type} : Left H := { results := [], args := [] }

/-- 'pantrylaw1.DigestSums': WHATEVER THE INPUT: true; the input reads as it did. -/
def digestSumsSpec : ChangeSpec := { name := "digestSums", fn := fun _ => fun
  | [d] => { results := [.lit (.bool true)], args := [d] }
  | _ => none }
def digestSumsRow : OpenClaim := { program := "ytlkddmkfllnnhaa", sum := "7ed0ee1458f6f6c57be3df5d73241c22ed00379ccb47da1c9c26dc322b58f335", func := "pantry/pantrylaw1.DigestSums", spec := "digestSums", unfollowed := true, recurses := true, apart := false }
def DigestSumsSaid : Prop := digestSumsRow.holds Try.pinned (OpenSpec.ofChange digestSumsSpec)

/-- ITS FALSE NEIGHBOUR: 'it returns false'. Refute it at one input. -/
def digestSumsWrong : ChangeSpec := { name := "digestSums", fn := fun _ => fun
  | [d] => { results := [.lit (.bool false)], args := [d] }
  | _ => none }
def DigestSumsWrongFalsely : Prop := digestSumsRow.holds Try.pinned (OpenSpec.ofChange digestSumsWrong)

/-- 'pantrylaw1.DigestMacs': WHATEVER THE INPUT: true; the input reads as it did. -/
def digestMacsSpec : ChangeSpec := { name := "digestMacs", fn := fun _ => fun
  | [d1, d2] => { results := [.lit (.bool true)], args := [d1, d2] }
  | _ => none }
def digestMacsRow : OpenClaim := { program := "ytlkddmkfllnnhaa", sum := "7ed0ee1458f6f6c57be3df5d73241c22ed00379ccb47da1c9c26dc322b58f335", func := "pantry/pantrylaw1.DigestMacs", spec := "digestMacs", unfollowed := true, recurses := true, apart := false }
def DigestMacsSaid : Prop := digestMacsRow.holds Try.pinned (OpenSpec.ofChange digestMacsSpec)

/-- ITS FALSE NEIGHBOUR: 'it returns false'. Refute it at one input. -/
def digestMacsWrong : ChangeSpec := { name := "digestMacs", fn := fun _ => fun
  | [d1, d2] => { results := [.lit (.bool false)], args := [d1, d2] }
  | _ => none }
def DigestMacsWrongFalsely : Prop := digestMacsRow.holds Try.pinned (OpenSpec.ofChange digestMacsWrong)

/-- 'pantrylaw1.DigestFolds': WHATEVER THE INPUT: true; the input reads as it did. -/
def digestFoldsSpec : ChangeSpec := { name := "digestFolds", fn := fun _ => fun
  | [d] => { results := [.lit (.bool true)], args := [d] }
  | _ => none }
def digestFoldsRow : OpenClaim := { program := "ytlkddmkfllnnhaa", sum := "7ed0ee1458f6f6c57be3df5d73241c22ed00379ccb47da1c9c26dc322b58f335", func := "pantry/pantrylaw1.DigestFolds", spec := "digestFolds", unfollowed := true, recurses := true, apart := false }
def DigestFoldsSaid : Prop := digestFoldsRow.holds Try.pinned (OpenSpec.ofChange digestFoldsSpec)

/-- ITS FALSE NEIGHBOUR: 'it returns false'. Refute it at one input. -/
def digestFoldsWrong : ChangeSpec := { name := "digestFolds", fn := fun _ => fun
  | [d] => { results := [.lit (.bool false)], args := [d] }
  | _ => none }
def DigestFoldsWrongFalsely : Prop := digestFoldsRow.holds Try.pinned (OpenSpec.ofChange digestFoldsWrong)

/-- 'pantrylaw1.DigestHexes': WHATEVER THE INPUT: true; the input reads as it did. -/
def digestHexesSpec : ChangeSpec := { name := "digestHexes", fn := fun _ => fun
  | [d1, d2] => { results := [.lit (.bool true)], args := [d1, d2] }
  | _ => none }
def digestHexesRow : OpenClaim := { program := "ytlkddmkfllnnhaa", sum := "7ed0ee1458f6f6c57be3df5d73241c22ed00379ccb47da1c9c26dc322b58f335", func := "pantry/pantrylaw1.DigestHexes", spec := "digestHexes", unfollowed := true, recurses := true, apart := false }
def DigestHexesSaid : Prop := digestHexesRow.holds Try.pinned (OpenSpec.ofChange digestHexesSpec)

/-- ITS FALSE NEIGHBOUR: 'it returns false'. Refute it at one input. -/
def digestHexesWrong : ChangeSpec := { name := "digestHexes", fn := fun _ => fun
  | [d1, d2] => { results := [.lit (.bool false)], args := [d1, d2] }
  | _ => none }
def DigestHexesWrongFalsely : Prop := digestHexesRow.holds Try.pinned (OpenSpec.ofChange digestHexesWrong)

/-- 'pantrylaw1.DigestOfNothing': WHATEVER THE INPUT: true; the input reads as it did. -/
def digestOfNothingSpec : ChangeSpec := { name := "digestOfNothing", fn := fun _ => fun
  | [d] => { results := [.lit (.bool true)], args := [d] }
  | _ => none }
def digestOfNothingRow : OpenClaim := { program := "ytlkddmkfllnnhaa", sum := "7ed0ee1458f6f6c57be3df5d73241c22ed00379ccb47da1c9c26dc322b58f335", func := "pantry/pantrylaw1.DigestOfNothing", spec := "digestOfNothing", inPlace := ["sync/atomic.LoadUint32", "sync/atomic.AddInt64", "sync/atomic.LoadInt64", "sync/atomic.StoreUint32", "(*internal/sync.Mutex).Lock", "internal/race.Disable", "sync/atomic.CompareAndSwapInt32", "internal/race.Enable", "internal/race.Acquire", "(*internal/sync.Mutex).lockSlow", "internal/sync.runtime_canSpin", "internal/sync.runtime_doSpin", "internal/sync.throw", "internal/sync.runtime_nanotime", "internal/sync.runtime_SemacquireMutex", "sync/atomic.AddInt32", "(*internal/sync.Mutex).Unlock", "internal/race.ReleaseMerge", "(*internal/sync.Mutex).unlockSlow", "internal/sync.fatal", "internal/sync.runtime_Semrelease"], unfollowed := true, recurses := true, apart := false }
def DigestOfNothingSaid : Prop := digestOfNothingRow.holds Try.pinned (OpenSpec.ofChange digestOfNothingSpec)

/-- ITS FALSE NEIGHBOUR: 'it returns false'. Refute it at one input. -/
def digestOfNothingWrong : ChangeSpec := { name := "digestOfNothing", fn := fun _ => fun
  | [d] => { results := [.lit (.bool false)], args := [d] }
  | _ => none }
def DigestOfNothingWrongFalsely : Prop := digestOfNothingRow.holds Try.pinned (OpenSpec.ofChange digestOfNothingWrong)

/-- 'pantrylaw1.DigestGrows': WHATEVER THE INPUT: true; the input reads as it did. -/
def digestGrowsSpec : ChangeSpec := { name := "digestGrows", fn := fun _ => fun
  | [d1, d2] => { results := [.lit (.bool true)], args := [d1, d2] }
  | _ => none }
def digestGrowsRow : OpenClaim := { program := "ytlkddmkfllnnhaa", sum := "7ed0ee1458f6f6c57be3df5d73241c22ed00379ccb47da1c9c26dc322b58f335", func := "pantry/pantrylaw1.DigestGrows", spec := "digestGrows", inPlace := ["sync/atomic.LoadUint32", "sync/atomic.AddInt64", "sync/atomic.LoadInt64", "sync/atomic.StoreUint32", "(*internal/sync.Mutex).Lock", "internal/race.Disable", "sync/atomic.CompareAndSwapInt32", "internal/race.Enable", "internal/race.Acquire", "(*internal/sync.Mutex).lockSlow", "internal/sync.runtime_canSpin", "internal/sync.runtime_doSpin", "internal/sync.throw", "internal/sync.runtime_nanotime", "internal/sync.runtime_SemacquireMutex", "sync/atomic.AddInt32", "(*internal/sync.Mutex).Unlock", "internal/race.ReleaseMerge", "(*internal/sync.Mutex).unlockSlow", "internal/sync.fatal", "internal/sync.runtime_Semrelease"], unfollowed := true, recurses := true, apart := false }
def DigestGrowsSaid : Prop := digestGrowsRow.holds Try.pinned (OpenSpec.ofChange digestGrowsSpec)

/-- ITS FALSE NEIGHBOUR: 'it returns false'. Refute it at one input. -/
def digestGrowsWrong : ChangeSpec := { name := "digestGrows", fn := fun _ => fun
  | [d1, d2] => { results := [.lit (.bool false)], args := [d1, d2] }
  | _ => none }
def DigestGrowsWrongFalsely : Prop := digestGrowsRow.holds Try.pinned (OpenSpec.ofChange digestGrowsWrong)

/- THE SECOND FORM. 'bulk': how many values and letters a reading holds, each counted each time it is reached (what is shared counts as often as it is met; a slice's spare places count too). A statement '..UptoSaid' is the law's where the arguments, and the package variables that the reading takes, are together of bulk at most 1048576: NARROWER than '..Said'. Prove '..Said' where nothing that the law and all that it calls make is longer than what came in: it says more and counts as full. Else prove '..UptoSaid'. A law counts once. -/
mutual
def uptoBulk {H : Type} : DataW H → Nat
  | .lit (.string bytes) => bytes.length + 1
  | .lit _ => 1
  | .nil => 1
  | .ptr d => uptoBulk d + 1
  | .slice elems spare => uptoBulkAll elems + uptoBulkAll spare + 1
  | .agg parts => uptoBulkAll parts + 1
  | .iface _ d => uptoBulk d + 1
  | .map entries => uptoBulkEntries entries + 1
  | .held _ => 1
def uptoBulkAll {H : Type} : List (DataW H) → Nat
  | [] => 0
  | d :: r => uptoBulk d + uptoBulkAll r
def uptoBulkEntries {H : Type} : List (Lit × DataW H) → Nat
  | [] => 0
  | x :: r => uptoBulkEntry x + uptoBulkEntries r
def uptoBulkEntry {H : Type} : Lit × DataW H → Nat
  | (.string bytes, d) => bytes.length + uptoBulk d + 1
  | (_, d) => uptoBulk d + 1
 end
def uptoSmall : (H : Type) → List (DataW H) → Bool := fun _ ds => decide (uptoBulkAll ds ≤ 1048576)
def OpenSpec.upto (s : _root_.Go.ChangeSpec) : _root_.Go.OpenSpec := { _root_.Go.OpenSpec.ofChange s with cond := some uptoSmall }

/-- 'pantrylaw1.DigestSums', WHERE WHAT IT READS IS OF BULK AT MOST 1048576: true; the input reads as it did. -/
def digestSumsUptoRow : OpenClaim := { program := "ytlkddmkfllnnhaa", sum := "7ed0ee1458f6f6c57be3df5d73241c22ed00379ccb47da1c9c26dc322b58f335", func := "pantry/pantrylaw1.DigestSums", spec := "digestSums", unfollowed := true, recurses := true, apart := false, narrowed := true }
def DigestSumsUptoSaid : Prop := digestSumsUptoRow.holds Try.pinned (OpenSpec.upto digestSumsSpec)

/-- 'pantrylaw1.DigestMacs', WHERE WHAT IT READS IS OF BULK AT MOST 1048576: true; the input reads as it did. -/
def digestMacsUptoRow : OpenClaim := { program := "ytlkddmkfllnnhaa", sum := "7ed0ee1458f6f6c57be3df5d73241c22ed00379ccb47da1c9c26dc322b58f335", func := "pantry/pantrylaw1.DigestMacs", spec := "digestMacs", unfollowed := true, recurses := true, apart := false, narrowed := true }
def DigestMacsUptoSaid : Prop := digestMacsUptoRow.holds Try.pinned (OpenSpec.upto digestMacsSpec)

/-- 'pantrylaw1.DigestFolds', WHERE WHAT IT READS IS OF BULK AT MOST 1048576: true; the input reads as it did. -/
def digestFoldsUptoRow : OpenClaim := { program := "ytlkddmkfllnnhaa", sum := "7ed0ee1458f6f6c57be3df5d73241c22ed00379ccb47da1c9c26dc322b58f335", func := "pantry/pantrylaw1.DigestFolds", spec := "digestFolds", unfollowed := true, recurses := true, apart := false, narrowed := true }
def DigestFoldsUptoSaid : Prop := digestFoldsUptoRow.holds Try.pinned (OpenSpec.upto digestFoldsSpec)

/-- 'pantrylaw1.DigestHexes', WHERE WHAT IT READS IS OF BULK AT MOST 1048576: true; the input reads as it did. -/
def digestHexesUptoRow : OpenClaim := { program := "ytlkddmkfllnnhaa", sum := "7ed0ee1458f6f6c57be3df5d73241c22ed00379ccb47da1c9c26dc322b58f335", func := "pantry/pantrylaw1.DigestHexes", spec := "digestHexes", unfollowed := true, recurses := true, apart := false, narrowed := true }
def DigestHexesUptoSaid : Prop := digestHexesUptoRow.holds Try.pinned (OpenSpec.upto digestHexesSpec)

/-- 'pantrylaw1.DigestOfNothing', WHERE WHAT IT READS IS OF BULK AT MOST 1048576: true; the input reads as it did. -/
def digestOfNothingUptoRow : OpenClaim := { program := "ytlkddmkfllnnhaa", sum := "7ed0ee1458f6f6c57be3df5d73241c22ed00379ccb47da1c9c26dc322b58f335", func := "pantry/pantrylaw1.DigestOfNothing", spec := "digestOfNothing", inPlace := ["sync/atomic.LoadUint32", "sync/atomic.AddInt64", "sync/atomic.LoadInt64", "sync/atomic.StoreUint32", "(*internal/sync.Mutex).Lock", "internal/race.Disable", "sync/atomic.CompareAndSwapInt32", "internal/race.Enable", "internal/race.Acquire", "(*internal/sync.Mutex).lockSlow", "internal/sync.runtime_canSpin", "internal/sync.runtime_doSpin", "internal/sync.throw", "internal/sync.runtime_nanotime", "internal/sync.runtime_SemacquireMutex", "sync/atomic.AddInt32", "(*internal/sync.Mutex).Unlock", "internal/race.ReleaseMerge", "(*internal/sync.Mutex).unlockSlow", "internal/sync.fatal", "internal/sync.runtime_Semrelease"], unfollowed := true, recurses := true, apart := false, narrowed := true }
def DigestOfNothingUptoSaid : Prop := digestOfNothingUptoRow.holds Try.pinned (OpenSpec.upto digestOfNothingSpec)

/-- 'pantrylaw1.DigestGrows', WHERE WHAT IT READS IS OF BULK AT MOST 1048576: true; the input reads as it did. -/
def digestGrowsUptoRow : OpenClaim := { program := "ytlkddmkfllnnhaa", sum := "7ed0ee1458f6f6c57be3df5d73241c22ed00379ccb47da1c9c26dc322b58f335", func := "pantry/pantrylaw1.DigestGrows", spec := "digestGrows", inPlace := ["sync/atomic.LoadUint32", "sync/atomic.AddInt64", "sync/atomic.LoadInt64", "sync/atomic.StoreUint32", "(*internal/sync.Mutex).Lock", "internal/race.Disable", "sync/atomic.CompareAndSwapInt32", "internal/race.Enable", "internal/race.Acquire", "(*internal/sync.Mutex).lockSlow", "internal/sync.runtime_canSpin", "internal/sync.runtime_doSpin", "internal/sync.throw", "internal/sync.runtime_nanotime", "internal/sync.runtime_SemacquireMutex", "sync/atomic.AddInt32", "(*internal/sync.Mutex).Unlock", "internal/race.ReleaseMerge", "(*internal/sync.Mutex).unlockSlow", "internal/sync.fatal", "internal/sync.runtime_Semrelease"], unfollowed := true, recurses := true, apart := false, narrowed := true }
def DigestGrowsUptoSaid : Prop := digestGrowsUptoRow.holds Try.pinned (OpenSpec.upto digestGrowsSpec)

end Rows
end Go.Proofs.Ytlkddmkfllnnhaa
