/-
  No cell of these rows narrows 'for every input' (looked for: loops, veiled, ifaces, maps, wideKeys, modest, calm, conditions, laid).
  DERIVED. THE GIVEN ROWS OF THIS SEAT. 6 by the template 'for every input the law returns true; each argument reads behind the call as it read before'; 0 by the template 'total and deterministic' (their statements: YtlphhhmicdjljaaTotals.lean).
  GIVEN WITH THE SEED: the statements are not yours to turn. If you find one false, say at which input.
  Laid BY PROGRAM, IN A SANDBOX (cutbox-rows.mjs): the forced cells as the released guide's own fill.sh prints them over the translation 890bf241ad3d38db… (all of the seat's roots in one cut). By AI agents, Wed Nov 11 2026. No macro, syntax, notation, axiom, sorry.
-/
import Derived.Test.YtlphhhmicdjljaaChecked
import GoSem.Claim
import GoSem.ClaimJoined
import GoSem.ClaimMapViews
import Derived.JoinedTies
import Derived.KernelRfl
namespace Go.Proofs.Ytlphhhmicdjljaa
/- THE CELL 'sum', in the pinned program and in every row, IS THE sha256 OF THE DUMP (.gsa) THAT YtlphhhmicdjljaaProg.lean LOADS. Nothing in Lean hashes anything: it is a label: what it is worth is what the hold of that sum in a sandbox is worth. -/
noncomputable def Try.pinned : Pinned := { name := "ytlphhhmicdjljaa", sum := "890bf241ad3d38dbf00a12525c05c574a466c5709bea02ad6c126706d33b3767", checked := Try.checked }
namespace Rows
def none {H : Type} : Left H := { results := [], args := [] }

/-- 'shardqueuelaw05.DueFull': WHATEVER THE INPUT: true; the input reads as it did. -/
def dueFullSpec : ChangeSpec := { name := "dueFull", fn := fun _ => fun
  | [d] => { results := [.lit (.bool true)], args := [d] }
  | _ => none }
def dueFullRow : OpenClaim := { program := "ytlphhhmicdjljaa", sum := "890bf241ad3d38dbf00a12525c05c574a466c5709bea02ad6c126706d33b3767", func := "shardqueue/shardqueuelaw05.DueFull", spec := "dueFull", unfollowed := true, recurses := true, apart := false }
def DueFullSaid : Prop := dueFullRow.holds Try.pinned (OpenSpec.ofChange dueFullSpec)

/-- ITS FALSE NEIGHBOUR: 'it returns false'. Refute it at one input. -/
def dueFullWrong : ChangeSpec := { name := "dueFull", fn := fun _ => fun
  | [d] => { results := [.lit (.bool false)], args := [d] }
  | _ => none }
def DueFullWrongFalsely : Prop := dueFullRow.holds Try.pinned (OpenSpec.ofChange dueFullWrong)

/-- 'shardqueuelaw05.DueSorts': WHATEVER THE INPUT: true; the input reads as it did. -/
def dueSortsSpec : ChangeSpec := { name := "dueSorts", fn := fun _ => fun
  | [d] => { results := [.lit (.bool true)], args := [d] }
  | _ => none }
def dueSortsRow : OpenClaim := { program := "ytlphhhmicdjljaa", sum := "890bf241ad3d38dbf00a12525c05c574a466c5709bea02ad6c126706d33b3767", func := "shardqueue/shardqueuelaw05.DueSorts", spec := "dueSorts", unfollowed := true, recurses := true, apart := false }
def DueSortsSaid : Prop := dueSortsRow.holds Try.pinned (OpenSpec.ofChange dueSortsSpec)

/-- ITS FALSE NEIGHBOUR: 'it returns false'. Refute it at one input. -/
def dueSortsWrong : ChangeSpec := { name := "dueSorts", fn := fun _ => fun
  | [d] => { results := [.lit (.bool false)], args := [d] }
  | _ => none }
def DueSortsWrongFalsely : Prop := dueSortsRow.holds Try.pinned (OpenSpec.ofChange dueSortsWrong)

/-- 'shardqueuelaw05.DueRemoves': WHATEVER THE INPUT: true; the input reads as it did. -/
def dueRemovesSpec : ChangeSpec := { name := "dueRemoves", fn := fun _ => fun
  | [d] => { results := [.lit (.bool true)], args := [d] }
  | _ => none }
def dueRemovesRow : OpenClaim := { program := "ytlphhhmicdjljaa", sum := "890bf241ad3d38dbf00a12525c05c574a466c5709bea02ad6c126706d33b3767", func := "shardqueue/shardqueuelaw05.DueRemoves", spec := "dueRemoves", unfollowed := true, recurses := true, apart := false }
def DueRemovesSaid : Prop := dueRemovesRow.holds Try.pinned (OpenSpec.ofChange dueRemovesSpec)

/-- ITS FALSE NEIGHBOUR: 'it returns false'. Refute it at one input. -/
def dueRemovesWrong : ChangeSpec := { name := "dueRemoves", fn := fun _ => fun
  | [d] => { results := [.lit (.bool false)], args := [d] }
  | _ => none }
def DueRemovesWrongFalsely : Prop := dueRemovesRow.holds Try.pinned (OpenSpec.ofChange dueRemovesWrong)

/-- 'shardqueuelaw14.SnapshotSteps': WHATEVER THE INPUT: true; the input reads as it did. -/
def snapshotStepsSpec : ChangeSpec := { name := "snapshotSteps", fn := fun _ => fun
  | [d] => { results := [.lit (.bool true)], args := [d] }
  | _ => none }
def snapshotStepsRow : OpenClaim := { program := "ytlphhhmicdjljaa", sum := "890bf241ad3d38dbf00a12525c05c574a466c5709bea02ad6c126706d33b3767", func := "shardqueue/shardqueuelaw14.SnapshotSteps", spec := "snapshotSteps", unfollowed := true, recurses := true, apart := false }
def SnapshotStepsSaid : Prop := snapshotStepsRow.holds Try.pinned (OpenSpec.ofChange snapshotStepsSpec)

/-- ITS FALSE NEIGHBOUR: 'it returns false'. Refute it at one input. -/
def snapshotStepsWrong : ChangeSpec := { name := "snapshotSteps", fn := fun _ => fun
  | [d] => { results := [.lit (.bool false)], args := [d] }
  | _ => none }
def SnapshotStepsWrongFalsely : Prop := snapshotStepsRow.holds Try.pinned (OpenSpec.ofChange snapshotStepsWrong)

/-- 'shardqueuelaw17.BatchEntries': WHATEVER THE INPUT: true; the input reads as it did. -/
def batchEntriesSpec : ChangeSpec := { name := "batchEntries", fn := fun _ => fun
  | [d] => { results := [.lit (.bool true)], args := [d] }
  | _ => none }
def batchEntriesRow : OpenClaim := { program := "ytlphhhmicdjljaa", sum := "890bf241ad3d38dbf00a12525c05c574a466c5709bea02ad6c126706d33b3767", func := "shardqueue/shardqueuelaw17.BatchEntries", spec := "batchEntries", unfollowed := true, recurses := true, apart := false }
def BatchEntriesSaid : Prop := batchEntriesRow.holds Try.pinned (OpenSpec.ofChange batchEntriesSpec)

/-- ITS FALSE NEIGHBOUR: 'it returns false'. Refute it at one input. -/
def batchEntriesWrong : ChangeSpec := { name := "batchEntries", fn := fun _ => fun
  | [d] => { results := [.lit (.bool false)], args := [d] }
  | _ => none }
def BatchEntriesWrongFalsely : Prop := batchEntriesRow.holds Try.pinned (OpenSpec.ofChange batchEntriesWrong)

/-- 'shardqueuelaw17.BatchLimits': WHATEVER THE INPUT: true; the input reads as it did. -/
def batchLimitsSpec : ChangeSpec := { name := "batchLimits", fn := fun _ => fun
  | [d] => { results := [.lit (.bool true)], args := [d] }
  | _ => none }
def batchLimitsRow : OpenClaim := { program := "ytlphhhmicdjljaa", sum := "890bf241ad3d38dbf00a12525c05c574a466c5709bea02ad6c126706d33b3767", func := "shardqueue/shardqueuelaw17.BatchLimits", spec := "batchLimits", unfollowed := true, recurses := true, apart := false }
def BatchLimitsSaid : Prop := batchLimitsRow.holds Try.pinned (OpenSpec.ofChange batchLimitsSpec)

/-- ITS FALSE NEIGHBOUR: 'it returns false'. Refute it at one input. -/
def batchLimitsWrong : ChangeSpec := { name := "batchLimits", fn := fun _ => fun
  | [d] => { results := [.lit (.bool false)], args := [d] }
  | _ => none }
def BatchLimitsWrongFalsely : Prop := batchLimitsRow.holds Try.pinned (OpenSpec.ofChange batchLimitsWrong)

/- THE SECOND FORM. 'bulk': how many values and letters a reading holds, each counted each time it is reached (what is shared counts as often as it is met; a slice's spare places count too). A statement '..UptoSaid' is the law's where the arguments, and the package variables that the reading takes, are together of bulk at most 1048576: NARROWER than '..Said'. Prove '..Said' where nothing that the law and all that it calls make is longer than what came in: it says more and counts as full. Else prove '..UptoSaid'. A law counts once. -/
mutual
def uptoBulk {H : Type} : DataW H → Nat
  | .lit (.string bytes) => bytes.length + 1
  | .lit _ => 1
  | .nil => 1
  | .ptr d => uptoBulk d + 1
  | .slice elems spare => uptoBulkAll elems + uptoBulkAll spare + 1
  | .agg parts => uptoBulkAll parts + 1
  | .iface _ d => uptoBulk d + 1
  | .map entries => uptoBulkEntries entries + 1
  | .held _ => 1
def uptoBulkAll {H : Type} : List (DataW H) → Nat
  | [] => 0
  | d :: r => uptoBulk d + uptoBulkAll r
def uptoBulkEntries {H : Type} : List (Lit × DataW H) → Nat
  | [] => 0
  | x :: r => uptoBulkEntry x + uptoBulkEntries r
def uptoBulkEntry {H : Type} : Lit × DataW H → Nat
  | (.string bytes, d) => bytes.length + uptoBulk d + 1
  | (_, d) => uptoBulk d + 1
 end
def uptoSmall : (H : Type) → List (DataW H) → Bool := fun _ ds => decide (uptoBulkAll ds ≤ 1048576)
def OpenSpec.upto (s : _root_.Go.ChangeSpec) : _root_.Go.OpenSpec := { _root_.Go.OpenSpec.ofChange s with cond := some uptoSmall }

/-- 'shardqueuelaw05.DueFull', WHERE WHAT IT READS IS OF BULK AT MOST 1048576: true; the input reads as it did. -/
def dueFullUptoRow : OpenClaim := { program := "ytlphhhmicdjljaa", sum := "890bf241ad3d38dbf00a12525c05c574a466c5709bea02ad6c126706d33b3767", func := "shardqueue/shardqueuelaw05.DueFull", spec := "dueFull", unfollowed := true, recurses := true, apart := false, narrowed := true }
def DueFullUptoSaid : Prop := dueFullUptoRow.holds Try.pinned (OpenSpec.upto dueFullSpec)

/-- 'shardqueuelaw05.DueSorts', WHERE WHAT IT READS IS OF BULK AT MOST 1048576: true; the input reads as it did. -/
def dueSortsUptoRow : OpenClaim := { program := "ytlphhhmicdjljaa", sum := "890bf241ad3d38dbf00a12525c05c574a466c5709bea02ad6c126706d33b3767", func := "shardqueue/shardqueuelaw05.DueSorts", spec := "dueSorts", unfollowed := true, recurses := true, apart := false, narrowed := true }
def DueSortsUptoSaid : Prop := dueSortsUptoRow.holds Try.pinned (OpenSpec.upto dueSortsSpec)

/-- 'shardqueuelaw05.DueRemoves', WHERE WHAT IT READS IS OF BULK AT MOST 1048576: true; the input reads as it did. -/
def dueRemovesUptoRow : OpenClaim := { program := "ytlphhhmicdjljaa", sum := "890bf241ad3d38dbf00a12525c05c574a466c5709bea02ad6c126706d33b3767", func := "shardqueue/shardqueuelaw05.DueRemoves", spec := "dueRemoves", unfollowed := true, recurses := true, apart := false, narrowed := true }
def DueRemovesUptoSaid : Prop := dueRemovesUptoRow.holds Try.pinned (OpenSpec.upto dueRemovesSpec)

/-- 'shardqueuelaw14.SnapshotSteps', WHERE WHAT IT READS IS OF BULK AT MOST 1048576: true; the input reads as it did. -/
def snapshotStepsUptoRow : OpenClaim := { program := "ytlphhhmicdjljaa", sum := "890bf241ad3d38dbf00a12525c05c574a466c5709bea02ad6c126706d33b3767", func := "shardqueue/shardqueuelaw14.SnapshotSteps", spec := "snapshotSteps", unfollowed := true, recurses := true, apart := false, narrowed := true }
def SnapshotStepsUptoSaid : Prop := snapshotStepsUptoRow.holds Try.pinned (OpenSpec.upto snapshotStepsSpec)

/-- 'shardqueuelaw17.BatchEntries', WHERE WHAT IT READS IS OF BULK AT MOST 1048576: true; the input reads as it did. -/
def batchEntriesUptoRow : OpenClaim := { program := "ytlphhhmicdjljaa", sum := "890bf241ad3d38dbf00a12525c05c574a466c5709bea02ad6c126706d33b3767", func := "shardqueue/shardqueuelaw17.BatchEntries", spec := "batchEntries", unfollowed := true, recurses := true, apart := false, narrowed := true }
def BatchEntriesUptoSaid : Prop := batchEntriesUptoRow.holds Try.pinned (OpenSpec.upto batchEntriesSpec)

/-- 'shardqueuelaw17.BatchLimits', WHERE WHAT IT READS IS OF BULK AT MOST 1048576: true; the input reads as it did. -/
def batchLimitsUptoRow : OpenClaim := { program := "ytlphhhmicdjljaa", sum := "890bf241ad3d38dbf00a12525c05c574a466c5709bea02ad6c126706d33b3767", func := "shardqueue/shardqueuelaw17.BatchLimits", spec := "batchLimits", unfollowed := true, recurses := true, apart := false, narrowed := true }
def BatchLimitsUptoSaid : Prop := batchLimitsUptoRow.holds Try.pinned (OpenSpec.upto batchLimitsSpec)

end Rows
end Go.Proofs.Ytlphhhmicdjljaa
