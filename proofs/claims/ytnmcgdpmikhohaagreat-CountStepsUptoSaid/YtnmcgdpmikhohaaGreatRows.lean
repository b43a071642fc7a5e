/-
  No cell of these rows narrows 'for every input' (looked for: loops, veiled, ifaces, maps, wideKeys, modest, calm, conditions, laid).
  DERIVED. THE GIVEN ROWS OF THIS SEAT. 7 by the template 'for every input the law returns true; each argument reads behind the call as it read before'; 0 by the template 'total and deterministic' (their statements: YtnmcgdpmikhohaaGreatTotals.lean).
  GIVEN WITH THE SEED: the statements are not yours to turn. If you find one false, say at which input.
  Laid BY PROGRAM, IN A SANDBOX (cutbox-rows.mjs): the forced cells as the released guide's own fill.sh prints them over the translation e7c6686f886ac1dc… (all of the seat's roots in one cut). By AI agents, Wed Nov 11 2026. No macro, syntax, notation, axiom, sorry.
-/
import Derived.Test.YtnmcgdpmikhohaaGreatChecked
import GoSem.Claim
import GoSem.ClaimJoined
import GoSem.ClaimMapViews
import Derived.JoinedTies
import Derived.KernelRfl
namespace Go.Proofs.YtnmcgdpmikhohaaGreat
/- THE CELL 'sum', in the pinned program and in every row, IS THE sha256 OF THE DUMP (.gsa) THAT YtnmcgdpmikhohaaGreatProg.lean LOADS. Nothing in Lean hashes anything: it is a label: what it is worth is what the hold of that sum in a sandbox is worth. -/
noncomputable def Tryz.pinned : Pinned := { name := "ytnmcgdpmikhohaagreat", sum := "e7c6686f886ac1dcad6d19ae7ce8ae400d7fe04f8dbb60b0fe4e121caa7da3fa", checked := Tryz.checked }
namespace Rows
def none {H : Type} : Left H := { results := [], args := [] }

/-- 'shardqueuelaw21.PurgeSteps': WHATEVER THE INPUT: true; the input reads as it did. -/
def purgeStepsSpec : ChangeSpec := { name := "purgeSteps", fn := fun _ => fun
  | [d] => { results := [.lit (.bool true)], args := [d] }
  | _ => none }
def purgeStepsRow : OpenClaim := { program := "ytnmcgdpmikhohaagreat", sum := "e7c6686f886ac1dcad6d19ae7ce8ae400d7fe04f8dbb60b0fe4e121caa7da3fa", func := "shardqueue/shardqueuelaw21.PurgeSteps", spec := "purgeSteps", inPlace := ["sync/atomic.StoreInt64", "sync/atomic.CompareAndSwapInt64", "sync/atomic.LoadInt64"], apart := false }
def PurgeStepsSaid : Prop := purgeStepsRow.holds Tryz.pinned (OpenSpec.ofChange purgeStepsSpec)

/-- ITS FALSE NEIGHBOUR: 'it returns false'. Refute it at one input. -/
def purgeStepsWrong : ChangeSpec := { name := "purgeSteps", fn := fun _ => fun
  | [d] => { results := [.lit (.bool false)], args := [d] }
  | _ => none }
def PurgeStepsWrongFalsely : Prop := purgeStepsRow.holds Tryz.pinned (OpenSpec.ofChange purgeStepsWrong)

/-- 'shardqueuelaw21.PurgeRefuses': WHATEVER THE INPUT: true; the input reads as it did. -/
def purgeRefusesSpec : ChangeSpec := { name := "purgeRefuses", fn := fun _ => fun
  | [d] => { results := [.lit (.bool true)], args := [d] }
  | _ => none }
def purgeRefusesRow : OpenClaim := { program := "ytnmcgdpmikhohaagreat", sum := "e7c6686f886ac1dcad6d19ae7ce8ae400d7fe04f8dbb60b0fe4e121caa7da3fa", func := "shardqueue/shardqueuelaw21.PurgeRefuses", spec := "purgeRefuses", inPlace := ["sync/atomic.StoreInt64", "sync/atomic.CompareAndSwapInt64", "sync/atomic.LoadInt64"], apart := false }
def PurgeRefusesSaid : Prop := purgeRefusesRow.holds Tryz.pinned (OpenSpec.ofChange purgeRefusesSpec)

/-- ITS FALSE NEIGHBOUR: 'it returns false'. Refute it at one input. -/
def purgeRefusesWrong : ChangeSpec := { name := "purgeRefuses", fn := fun _ => fun
  | [d] => { results := [.lit (.bool false)], args := [d] }
  | _ => none }
def PurgeRefusesWrongFalsely : Prop := purgeRefusesRow.holds Tryz.pinned (OpenSpec.ofChange purgeRefusesWrong)

/-- 'shardqueuelaw22.CountSteps': WHATEVER THE INPUT: true; the input reads as it did. -/
def countStepsSpec : ChangeSpec := { name := "countSteps", fn := fun _ => fun
  | [d] => { results := [.lit (.bool true)], args := [d] }
  | _ => none }
def countStepsRow : OpenClaim := { program := "ytnmcgdpmikhohaagreat", sum := "e7c6686f886ac1dcad6d19ae7ce8ae400d7fe04f8dbb60b0fe4e121caa7da3fa", func := "shardqueue/shardqueuelaw22.CountSteps", spec := "countSteps", unfollowed := true, recurses := true, apart := false }
def CountStepsSaid : Prop := countStepsRow.holds Tryz.pinned (OpenSpec.ofChange countStepsSpec)

/-- ITS FALSE NEIGHBOUR: 'it returns false'. Refute it at one input. -/
def countStepsWrong : ChangeSpec := { name := "countSteps", fn := fun _ => fun
  | [d] => { results := [.lit (.bool false)], args := [d] }
  | _ => none }
def CountStepsWrongFalsely : Prop := countStepsRow.holds Tryz.pinned (OpenSpec.ofChange countStepsWrong)

/-- 'shardqueuelaw22.CountRefuses': WHATEVER THE INPUT: true; the input reads as it did. -/
def countRefusesSpec : ChangeSpec := { name := "countRefuses", fn := fun _ => fun
  | [d] => { results := [.lit (.bool true)], args := [d] }
  | _ => none }
def countRefusesRow : OpenClaim := { program := "ytnmcgdpmikhohaagreat", sum := "e7c6686f886ac1dcad6d19ae7ce8ae400d7fe04f8dbb60b0fe4e121caa7da3fa", func := "shardqueue/shardqueuelaw22.CountRefuses", spec := "countRefuses", unfollowed := true, recurses := true, apart := false }
def CountRefusesSaid : Prop := countRefusesRow.holds Tryz.pinned (OpenSpec.ofChange countRefusesSpec)

/-- ITS FALSE NEIGHBOUR: 'it returns false'. Refute it at one input. -/
def countRefusesWrong : ChangeSpec := { name := "countRefuses", fn := fun _ => fun
  | [d] => { results := [.lit (.bool false)], args := [d] }
  | _ => none }
def CountRefusesWrongFalsely : Prop := countRefusesRow.holds Tryz.pinned (OpenSpec.ofChange countRefusesWrong)

/-- 'shardqueuelaw14.SnapshotRaw': WHATEVER THE INPUT: true; the input reads as it did. -/
def snapshotRawSpec : ChangeSpec := { name := "snapshotRaw", fn := fun _ => fun
  | [d1, d2, d3] => { results := [.lit (.bool true)], args := [d1, d2, d3] }
  | _ => none }
def snapshotRawRow : OpenClaim := { program := "ytnmcgdpmikhohaagreat", sum := "e7c6686f886ac1dcad6d19ae7ce8ae400d7fe04f8dbb60b0fe4e121caa7da3fa", func := "shardqueue/shardqueuelaw14.SnapshotRaw", spec := "snapshotRaw", unfollowed := true, recurses := true, apart := false }
def SnapshotRawSaid : Prop := snapshotRawRow.holds Tryz.pinned (OpenSpec.ofChange snapshotRawSpec)

/-- ITS FALSE NEIGHBOUR: 'it returns false'. Refute it at one input. -/
def snapshotRawWrong : ChangeSpec := { name := "snapshotRaw", fn := fun _ => fun
  | [d1, d2, d3] => { results := [.lit (.bool false)], args := [d1, d2, d3] }
  | _ => none }
def SnapshotRawWrongFalsely : Prop := snapshotRawRow.holds Tryz.pinned (OpenSpec.ofChange snapshotRawWrong)

/-- 'shardqueuelaw12.ArenaLocks': WHATEVER THE INPUT: true; the input reads as it did. -/
def arenaLocksSpec : ChangeSpec := { name := "arenaLocks", fn := fun _ => fun
  | [d1, d2, d3] => { results := [.lit (.bool true)], args := [d1, d2, d3] }
  | _ => none }
def arenaLocksRow : OpenClaim := { program := "ytnmcgdpmikhohaagreat", sum := "e7c6686f886ac1dcad6d19ae7ce8ae400d7fe04f8dbb60b0fe4e121caa7da3fa", func := "shardqueue/shardqueuelaw12.ArenaLocks", spec := "arenaLocks", unfollowed := true, recurses := true, apart := false }
def ArenaLocksSaid : Prop := arenaLocksRow.holds Tryz.pinned (OpenSpec.ofChange arenaLocksSpec)

/-- ITS FALSE NEIGHBOUR: 'it returns false'. Refute it at one input. -/
def arenaLocksWrong : ChangeSpec := { name := "arenaLocks", fn := fun _ => fun
  | [d1, d2, d3] => { results := [.lit (.bool false)], args := [d1, d2, d3] }
  | _ => none }
def ArenaLocksWrongFalsely : Prop := arenaLocksRow.holds Tryz.pinned (OpenSpec.ofChange arenaLocksWrong)

/-- 'shardqueuelaw12.ArenaSwaps': WHATEVER THE INPUT: true; the input reads as it did. -/
def arenaSwapsSpec : ChangeSpec := { name := "arenaSwaps", fn := fun _ => fun
  | [d1, d2, d3, d4, d5] => { results := [.lit (.bool true)], args := [d1, d2, d3, d4, d5] }
  | _ => none }
def arenaSwapsRow : OpenClaim := { program := "ytnmcgdpmikhohaagreat", sum := "e7c6686f886ac1dcad6d19ae7ce8ae400d7fe04f8dbb60b0fe4e121caa7da3fa", func := "shardqueue/shardqueuelaw12.ArenaSwaps", spec := "arenaSwaps", inPlace := ["sync/atomic.StoreInt64", "sync/atomic.CompareAndSwapInt64", "sync/atomic.LoadInt64"], unfollowed := true, recurses := true, apart := false }
def ArenaSwapsSaid : Prop := arenaSwapsRow.holds Tryz.pinned (OpenSpec.ofChange arenaSwapsSpec)

/-- ITS FALSE NEIGHBOUR: 'it returns false'. Refute it at one input. -/
def arenaSwapsWrong : ChangeSpec := { name := "arenaSwaps", fn := fun _ => fun
  | [d1, d2, d3, d4, d5] => { results := [.lit (.bool false)], args := [d1, d2, d3, d4, d5] }
  | _ => none }
def ArenaSwapsWrongFalsely : Prop := arenaSwapsRow.holds Tryz.pinned (OpenSpec.ofChange arenaSwapsWrong)

/- THE SECOND FORM. 'bulk': how many values and letters a reading holds, each counted each time it is reached (what is shared counts as often as it is met; a slice's spare places count too). A statement '..UptoSaid' is the law's where the arguments, and the package variables that the reading takes, are together of bulk at most 1048576: NARROWER than '..Said'. Prove '..Said' where nothing that the law and all that it calls make is longer than what came in: it says more and counts as full. Else prove '..UptoSaid'. A law counts once. -/
mutual
def uptoBulk {H : Type} : DataW H → Nat
  | .lit (.string bytes) => bytes.length + 1
  | .lit _ => 1
  | .nil => 1
  | .ptr d => uptoBulk d + 1
  | .slice elems spare => uptoBulkAll elems + uptoBulkAll spare + 1
  | .agg parts => uptoBulkAll parts + 1
  | .iface _ d => uptoBulk d + 1
  | .map entries => uptoBulkEntries entries + 1
  | .held _ => 1
def uptoBulkAll {H : Type} : List (DataW H) → Nat
  | [] => 0
  | d :: r => uptoBulk d + uptoBulkAll r
def uptoBulkEntries {H : Type} : List (Lit × DataW H) → Nat
  | [] => 0
  | x :: r => uptoBulkEntry x + uptoBulkEntries r
def uptoBulkEntry {H : Type} : Lit × DataW H → Nat
  | (.string bytes, d) => bytes.length + uptoBulk d + 1
  | (_, d) => uptoBulk d + 1
 end
def uptoSmall : (H : Type) → List (DataW H) → Bool := fun _ ds => decide (uptoBulkAll ds ≤ 1048576)
def OpenSpec.upto (s : _root_.Go.ChangeSpec) : _root_.Go.OpenSpec := { _root_.Go.OpenSpec.ofChange s with cond := some uptoSmall }

/-- 'shardqueuelaw21.PurgeSteps', WHERE WHAT IT READS IS OF BULK AT MOST 1048576: true; the input reads as it did. -/
def purgeStepsUptoRow : OpenClaim := { program := "ytnmcgdpmikhohaagreat", sum := "e7c6686f886ac1dcad6d19ae7ce8ae400d7fe04f8dbb60b0fe4e121caa7da3fa", func := "shardqueue/shardqueuelaw21.PurgeSteps", spec := "purgeSteps", inPlace := ["sync/atomic.StoreInt64", "sync/atomic.CompareAndSwapInt64", "sync/atomic.LoadInt64"], apart := false, narrowed := true }
def PurgeStepsUptoSaid : Prop := purgeStepsUptoRow.holds Tryz.pinned (OpenSpec.upto purgeStepsSpec)

/-- 'shardqueuelaw21.PurgeRefuses', WHERE WHAT IT READS IS OF BULK AT MOST 1048576: true; the input reads as it did. -/
def purgeRefusesUptoRow : OpenClaim := { program := "ytnmcgdpmikhohaagreat", sum := "e7c6686f886ac1dcad6d19ae7ce8ae400d7fe04f8dbb60b0fe4e121caa7da3fa", func := "shardqueue/shardqueuelaw21.PurgeRefuses", spec := "purgeRefuses", inPlace := ["sync/atomic.StoreInt64", "sync/atomic.CompareAndSwapInt64", "sync/atomic.LoadInt64"], apart := false, narrowed := true }
def PurgeRefusesUptoSaid : Prop := purgeRefusesUptoRow.holds Tryz.pinned (OpenSpec.upto purgeRefusesSpec)

/-- 'shardqueuelaw22.CountSteps', WHERE WHAT IT READS IS OF BULK AT MOST 1048576: true; the input reads as it did. -/
def countStepsUptoRow : OpenClaim := { program := "ytnmcgdpmikhohaagreat", sum := "e7c6686f886ac1dcad6d19ae7ce8ae400d7fe04f8dbb60b0fe4e121caa7da3fa", func := "shardqueue/shardqueuelaw22.CountSteps", spec := "countSteps", unfollowed := true, recurses := true, apart := false, narrowed := true }
def CountStepsUptoSaid : Prop := countStepsUptoRow.holds Tryz.pinned (OpenSpec.upto countStepsSpec)

/-- 'shardqueuelaw22.CountRefuses', WHERE WHAT IT READS IS OF BULK AT MOST 1048576: true; the input reads as it did. -/
def countRefusesUptoRow : OpenClaim := { program := "ytnmcgdpmikhohaagreat", sum := "e7c6686f886ac1dcad6d19ae7ce8ae400d7fe04f8dbb60b0fe4e121caa7da3fa", func := "shardqueue/shardqueuelaw22.CountRefuses", spec := "countRefuses", unfollowed := true, recurses := true, apart := false, narrowed := true }
def CountRefusesUptoSaid : Prop := countRefusesUptoRow.holds Tryz.pinned (OpenSpec.upto countRefusesSpec)

/-- 'shardqueuelaw14.SnapshotRaw', WHERE WHAT IT READS IS OF BULK AT MOST 1048576: true; the input reads as it did. -/
def snapshotRawUptoRow : OpenClaim := { program := "ytnmcgdpmikhohaagreat", sum := "e7c6686f886ac1dcad6d19ae7ce8ae400d7fe04f8dbb60b0fe4e121caa7da3fa", func := "shardqueue/shardqueuelaw14.SnapshotRaw", spec := "snapshotRaw", unfollowed := true, recurses := true, apart := false, narrowed := true }
def SnapshotRawUptoSaid : Prop := snapshotRawUptoRow.holds Tryz.pinned (OpenSpec.upto snapshotRawSpec)

/-- 'shardqueuelaw12.ArenaLocks', WHERE WHAT IT READS IS OF BULK AT MOST 1048576: true; the input reads as it did. -/
def arenaLocksUptoRow : OpenClaim := { program := "ytnmcgdpmikhohaagreat", sum := "e7c6686f886ac1dcad6d19ae7ce8ae400d7fe04f8dbb60b0fe4e121caa7da3fa", func := "shardqueue/shardqueuelaw12.ArenaLocks", spec := "arenaLocks", unfollowed := true, recurses := true, apart := false, narrowed := true }
def ArenaLocksUptoSaid : Prop := arenaLocksUptoRow.holds Tryz.pinned (OpenSpec.upto arenaLocksSpec)

/-- 'shardqueuelaw12.ArenaSwaps', WHERE WHAT IT READS IS OF BULK AT MOST 1048576: true; the input reads as it did. -/
def arenaSwapsUptoRow : OpenClaim := { program := "ytnmcgdpmikhohaagreat", sum := "e7c6686f886ac1dcad6d19ae7ce8ae400d7fe04f8dbb60b0fe4e121caa7da3fa", func := "shardqueue/shardqueuelaw12.ArenaSwaps", spec := "arenaSwaps", inPlace := ["sync/atomic.StoreInt64", "sync/atomic.CompareAndSwapInt64", "sync/atomic.LoadInt64"], unfollowed := true, recurses := true, apart := false, narrowed := true }
def ArenaSwapsUptoSaid : Prop := arenaSwapsUptoRow.holds Tryz.pinned (OpenSpec.upto arenaSwapsSpec)

end Rows
end Go.Proofs.YtnmcgdpmikhohaaGreat
