/-
  No cell of these rows narrows 'for every input' (looked for: loops, veiled, ifaces, maps, wideKeys, modest, calm, conditions, laid).
  DERIVED. THE GIVEN ROWS OF THIS SEAT. 3 by the template 'for every input the law returns true; each argument reads behind the call as it read before'; 0 by the template 'total and deterministic' (their statements: YtbkhijigkmhhkaaTotals.lean).
  GIVEN WITH THE SEED: the statements are not yours to turn. If you find one false, say at which input.
  Laid BY PROGRAM, IN A SANDBOX (cutbox-rows.mjs): the forced cells as the released guide's own fill.sh prints them over the translation 7914f84e883d783a… (all of the seat's roots in one cut). By AI agents, Wed Nov 11 2026. No macro, syntax, notation, axiom, sorry.
-/
import Derived.Test.YtbkhijigkmhhkaaChecked
import GoSem.Claim
import GoSem.ClaimJoined
import GoSem.ClaimMapViews
import Derived.JoinedTies
import Derived.KernelRfl
namespace Go.Proofs.Ytbkhijigkmhhkaa
/- THE CELL 'sum', in the pinned program and in every row, IS THE sha256 OF THE DUMP (.gsa) THAT YtbkhijigkmhhkaaProg.lean LOADS. Nothing in Lean hashes anything: it is a label: what it is worth is what the hold of that sum in a sandbox is worth. -/
noncomputable def Try.pinned : Pinned := { name := "ytbkhijigkmhhkaa", sum := "7914f84e883d783a3453870f3ad4a17db9609a5369f775eab28665ef97942f1a", checked := Try.checked }
namespace Rows
def none {H : Type} : Left H := { results := [], args := [] }

/-- 'shardqueuelaw31.BagScript': WHATEVER THE INPUT: true; the input reads as it did. -/
def bagScriptSpec : ChangeSpec := { name := "bagScript", fn := fun _ => fun
  | [d] => { results := [.lit (.bool true)], args := [d] }
  | _ => none }
def bagScriptRow : OpenClaim := { program := "ytbkhijigkmhhkaa", sum := "7914f84e883d783a3453870f3ad4a17db9609a5369f775eab28665ef97942f1a", func := "shardqueue/shardqueuelaw31.BagScript", spec := "bagScript", inPlace := ["slices.overlaps[shardqueue/api.Item]"], unfollowed := true, recurses := true, apart := false }
def BagScriptSaid : Prop := bagScriptRow.holds Try.pinned (OpenSpec.ofChange bagScriptSpec)

/-- ITS FALSE NEIGHBOUR: 'it returns false'. Refute it at one input. -/
def bagScriptWrong : ChangeSpec := { name := "bagScript", fn := fun _ => fun
  | [d] => { results := [.lit (.bool false)], args := [d] }
  | _ => none }
def BagScriptWrongFalsely : Prop := bagScriptRow.holds Try.pinned (OpenSpec.ofChange bagScriptWrong)

/-- 'shardqueuelaw31.BagKeeps': WHATEVER THE INPUT: true; the input reads as it did. -/
def bagKeepsSpec : ChangeSpec := { name := "bagKeeps", fn := fun _ => fun
  | [d] => { results := [.lit (.bool true)], args := [d] }
  | _ => none }
def bagKeepsRow : OpenClaim := { program := "ytbkhijigkmhhkaa", sum := "7914f84e883d783a3453870f3ad4a17db9609a5369f775eab28665ef97942f1a", func := "shardqueue/shardqueuelaw31.BagKeeps", spec := "bagKeeps", inPlace := ["slices.overlaps[shardqueue/api.Item]"], unfollowed := true, recurses := true, apart := false }
def BagKeepsSaid : Prop := bagKeepsRow.holds Try.pinned (OpenSpec.ofChange bagKeepsSpec)

/-- ITS FALSE NEIGHBOUR: 'it returns false'. Refute it at one input. -/
def bagKeepsWrong : ChangeSpec := { name := "bagKeeps", fn := fun _ => fun
  | [d] => { results := [.lit (.bool false)], args := [d] }
  | _ => none }
def BagKeepsWrongFalsely : Prop := bagKeepsRow.holds Try.pinned (OpenSpec.ofChange bagKeepsWrong)

/-- 'shardqueuelaw31.BagExclusive': WHATEVER THE INPUT: true; the input reads as it did. -/
def bagExclusiveSpec : ChangeSpec := { name := "bagExclusive", fn := fun _ => fun
  | [d] => { results := [.lit (.bool true)], args := [d] }
  | _ => none }
def bagExclusiveRow : OpenClaim := { program := "ytbkhijigkmhhkaa", sum := "7914f84e883d783a3453870f3ad4a17db9609a5369f775eab28665ef97942f1a", func := "shardqueue/shardqueuelaw31.BagExclusive", spec := "bagExclusive", inPlace := ["slices.overlaps[shardqueue/api.Item]"], unfollowed := true, recurses := true, apart := false }
def BagExclusiveSaid : Prop := bagExclusiveRow.holds Try.pinned (OpenSpec.ofChange bagExclusiveSpec)

/-- ITS FALSE NEIGHBOUR: 'it returns false'. Refute it at one input. -/
def bagExclusiveWrong : ChangeSpec := { name := "bagExclusive", fn := fun _ => fun
  | [d] => { results := [.lit (.bool false)], args := [d] }
  | _ => none }
def BagExclusiveWrongFalsely : Prop := bagExclusiveRow.holds Try.pinned (OpenSpec.ofChange bagExclusiveWrong)

/- THE SECOND FORM. 'bulk': how many values and letters a reading holds, each counted each time it is reached (what is shared counts as often as it is met; a slice's spare places count too). A statement '..UptoSaid' is the law's where the arguments, and the package variables that the reading takes, are together of bulk at most 1048576: NARROWER than '..Said'. Prove '..Said' where nothing that the law and all that it calls make is longer than what came in: it says more and counts as full. Else prove '..UptoSaid'. A law counts once. -/
mutual
def uptoBulk {H : Type} : DataW H → Nat
  | .lit (.string bytes) => bytes.length + 1
  | .lit _ => 1
  | .nil => 1
  | .ptr d => uptoBulk d + 1
  | .slice elems spare => uptoBulkAll elems + uptoBulkAll spare + 1
  | .agg parts => uptoBulkAll parts + 1
  | .iface _ d => uptoBulk d + 1
  | .map entries => uptoBulkEntries entries + 1
  | .held _ => 1
def uptoBulkAll {H : Type} : List (DataW H) → Nat
  | [] => 0
  | d :: r => uptoBulk d + uptoBulkAll r
def uptoBulkEntries {H : Type} : List (Lit × DataW H) → Nat
  | [] => 0
  | x :: r => uptoBulkEntry x + uptoBulkEntries r
def uptoBulkEntry {H : Type} : Lit × DataW H → Nat
  | (.string bytes, d) => bytes.length + uptoBulk d + 1
  | (_, d) => uptoBulk d + 1
 end
def uptoSmall : (H : Type) → List (DataW H) → Bool := fun _ ds => decide (uptoBulkAll ds ≤ 1048576)
def OpenSpec.upto (s : _root_.Go.ChangeSpec) : _root_.Go.OpenSpec := { _root_.Go.OpenSpec.ofChange s with cond := some uptoSmall }

/-- 'shardqueuelaw31.BagScript', WHERE WHAT IT READS IS OF BULK AT MOST 1048576: true; the input reads as it did. -/
def bagScriptUptoRow : OpenClaim := { program := "ytbkhijigkmhhkaa", sum := "7914f84e883d783a3453870f3ad4a17db9609a5369f775eab28665ef97942f1a", func := "shardqueue/shardqueuelaw31.BagScript", spec := "bagScript", inPlace := ["slices.overlaps[shardqueue/api.Item]"], unfollowed := true, recurses := true, apart := false, narrowed := true }
def BagScriptUptoSaid : Prop := bagScriptUptoRow.holds Try.pinned (OpenSpec.upto bagScriptSpec)

/-- 'shardqueuelaw31.BagKeeps', WHERE WHAT IT READS IS OF BULK AT MOST 1048576: true; the input reads as it did. -/
def bagKeepsUptoRow : OpenClaim := { program := "ytbkhijigkmhhkaa", sum := "7914f84e883d783a3453870f3ad4a17db9609a5369f775eab28665ef97942f1a", func := "shardqueue/shardqueuelaw31.BagKeeps", spec := "bagKeeps", inPlace := ["slices.overlaps[shardqueue/api.Item]"], unfollowed := true, recurses := true, apart := false, narrowed := true }
def BagKeepsUptoSaid : Prop := bagKeepsUptoRow.holds Try.pinned (OpenSpec.upto bagKeepsSpec)

/-- 'shardqueuelaw31.BagExclusive', WHERE WHAT IT READS IS OF BULK AT MOST 1048576: true; the input reads as it did. -/
def bagExclusiveUptoRow : OpenClaim := { program := "ytbkhijigkmhhkaa", sum := "7914f84e883d783a3453870f3ad4a17db9609a5369f775eab28665ef97942f1a", func := "shardqueue/shardqueuelaw31.BagExclusive", spec := "bagExclusive", inPlace := ["slices.overlaps[shardqueue/api.Item]"], unfollowed := true, recurses := true, apart := false, narrowed := true }
def BagExclusiveUptoSaid : Prop := bagExclusiveUptoRow.holds Try.pinned (OpenSpec.upto bagExclusiveSpec)

end Rows
end Go.Proofs.Ytbkhijigkmhhkaa
