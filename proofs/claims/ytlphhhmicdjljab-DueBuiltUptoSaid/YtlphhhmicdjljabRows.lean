/-
  No cell of these rows narrows 'for every input' (looked for: loops, veiled, ifaces, maps, wideKeys, modest, calm, conditions, laid).
  DERIVED. THE GIVEN ROWS OF THIS SEAT. 4 by the template 'for every input the law returns true; each argument reads behind the call as it read before'; 0 by the template 'total and deterministic' (their statements: YtlphhhmicdjljabTotals.lean).
  GIVEN WITH THE SEED: the statements are not yours to turn. If you find one false, say at which input.
  Laid BY PROGRAM, IN A SANDBOX (cutbox-rows.mjs): the forced cells as the released guide's own fill.sh prints them over the translation 8e404479a3624c22… (all of the seat's roots in one cut). By AI agents, Wed Nov 11 2026. No macro, syntax, notation, axiom, sorry.
-/
import Derived.Test.YtlphhhmicdjljabChecked
import GoSem.Claim
import GoSem.ClaimJoined
import GoSem.ClaimMapViews
import Derived.JoinedTies
import Derived.KernelRfl
namespace Go.Proofs.Ytlphhhmicdjljab
/- THE CELL 'sum', in the pinned program and in every row, IS THE sha256 OF THE DUMP (.gsa) THAT YtlphhhmicdjljabProg.lean LOADS. Nothing in Lean hashes anything: it is a label: what it is worth is what the hold of that sum in a sandbox is worth. -/
noncomputable def Try.pinned : Pinned := { name := "ytlphhhmicdjljab", sum := "8e404479a3624c22cbbd5cafee5d890396b2214e78ede4d7b9316b1533a81581", checked := Try.checked }
namespace Rows
def none {H : Type} : Left H := { results := [], args := [] }

/-- 'shardqueuelaw10.DirectoryEnds': WHATEVER THE INPUT: true; the input reads as it did. -/
def directoryEndsSpec : ChangeSpec := { name := "directoryEnds", fn := fun _ => fun
  | [d] => { results := [.lit (.bool true)], args := [d] }
  | _ => none }
def directoryEndsRow : OpenClaim := { program := "ytlphhhmicdjljab", sum := "8e404479a3624c22cbbd5cafee5d890396b2214e78ede4d7b9316b1533a81581", func := "shardqueue/shardqueuelaw10.DirectoryEnds", spec := "directoryEnds", inPlace := ["slices.overlaps[shardqueue/api.Span]"], unfollowed := true, recurses := true, apart := false }
def DirectoryEndsSaid : Prop := directoryEndsRow.holds Try.pinned (OpenSpec.ofChange directoryEndsSpec)

/-- ITS FALSE NEIGHBOUR: 'it returns false'. Refute it at one input. -/
def directoryEndsWrong : ChangeSpec := { name := "directoryEnds", fn := fun _ => fun
  | [d] => { results := [.lit (.bool false)], args := [d] }
  | _ => none }
def DirectoryEndsWrongFalsely : Prop := directoryEndsRow.holds Try.pinned (OpenSpec.ofChange directoryEndsWrong)

/-- 'shardqueuelaw05.DueUntil': WHATEVER THE INPUT: true; the input reads as it did. -/
def dueUntilSpec : ChangeSpec := { name := "dueUntil", fn := fun _ => fun
  | [d1, d2] => { results := [.lit (.bool true)], args := [d1, d2] }
  | _ => none }
def dueUntilRow : OpenClaim := { program := "ytlphhhmicdjljab", sum := "8e404479a3624c22cbbd5cafee5d890396b2214e78ede4d7b9316b1533a81581", func := "shardqueue/shardqueuelaw05.DueUntil", spec := "dueUntil", unfollowed := true, recurses := true, apart := false }
def DueUntilSaid : Prop := dueUntilRow.holds Try.pinned (OpenSpec.ofChange dueUntilSpec)

/-- ITS FALSE NEIGHBOUR: 'it returns false'. Refute it at one input. -/
def dueUntilWrong : ChangeSpec := { name := "dueUntil", fn := fun _ => fun
  | [d1, d2] => { results := [.lit (.bool false)], args := [d1, d2] }
  | _ => none }
def DueUntilWrongFalsely : Prop := dueUntilRow.holds Try.pinned (OpenSpec.ofChange dueUntilWrong)

/-- 'shardqueuelaw05.DueRaw': WHATEVER THE INPUT: true; the input reads as it did. -/
def dueRawSpec : ChangeSpec := { name := "dueRaw", fn := fun _ => fun
  | [d1, d2, d3, d4] => { results := [.lit (.bool true)], args := [d1, d2, d3, d4] }
  | _ => none }
def dueRawRow : OpenClaim := { program := "ytlphhhmicdjljab", sum := "8e404479a3624c22cbbd5cafee5d890396b2214e78ede4d7b9316b1533a81581", func := "shardqueue/shardqueuelaw05.DueRaw", spec := "dueRaw", unfollowed := true, recurses := true, apart := false }
def DueRawSaid : Prop := dueRawRow.holds Try.pinned (OpenSpec.ofChange dueRawSpec)

/-- ITS FALSE NEIGHBOUR: 'it returns false'. Refute it at one input. -/
def dueRawWrong : ChangeSpec := { name := "dueRaw", fn := fun _ => fun
  | [d1, d2, d3, d4] => { results := [.lit (.bool false)], args := [d1, d2, d3, d4] }
  | _ => none }
def DueRawWrongFalsely : Prop := dueRawRow.holds Try.pinned (OpenSpec.ofChange dueRawWrong)

/-- 'shardqueuelaw05.DueBuilt': WHATEVER THE INPUT: true; the input reads as it did. -/
def dueBuiltSpec : ChangeSpec := { name := "dueBuilt", fn := fun _ => fun
  | [d] => { results := [.lit (.bool true)], args := [d] }
  | _ => none }
def dueBuiltRow : OpenClaim := { program := "ytlphhhmicdjljab", sum := "8e404479a3624c22cbbd5cafee5d890396b2214e78ede4d7b9316b1533a81581", func := "shardqueue/shardqueuelaw05.DueBuilt", spec := "dueBuilt", unfollowed := true, recurses := true, apart := false }
def DueBuiltSaid : Prop := dueBuiltRow.holds Try.pinned (OpenSpec.ofChange dueBuiltSpec)

/-- ITS FALSE NEIGHBOUR: 'it returns false'. Refute it at one input. -/
def dueBuiltWrong : ChangeSpec := { name := "dueBuilt", fn := fun _ => fun
  | [d] => { results := [.lit (.bool false)], args := [d] }
  | _ => none }
def DueBuiltWrongFalsely : Prop := dueBuiltRow.holds Try.pinned (OpenSpec.ofChange dueBuiltWrong)

/- THE SECOND FORM. 'bulk': how many values and letters a reading holds, each counted each time it is reached (what is shared counts as often as it is met; a slice's spare places count too). A statement '..UptoSaid' is the law's where the arguments, and the package variables that the reading takes, are together of bulk at most 1048576: NARROWER than '..Said'. Prove '..Said' where nothing that the law and all that it calls make is longer than what came in: it says more and counts as full. Else prove '..UptoSaid'. A law counts once. -/
mutual
def uptoBulk {H : Type} : DataW H → Nat
  | .lit (.string bytes) => bytes.length + 1
  | .lit _ => 1
  | .nil => 1
  | .ptr d => uptoBulk d + 1
  | .slice elems spare => uptoBulkAll elems + uptoBulkAll spare + 1
  | .agg parts => uptoBulkAll parts + 1
  | .iface _ d => uptoBulk d + 1
  | .map entries => uptoBulkEntries entries + 1
  | .held _ => 1
def uptoBulkAll {H : Type} : List (DataW H) → Nat
  | [] => 0
  | d :: r => uptoBulk d + uptoBulkAll r
def uptoBulkEntries {H : Type} : List (Lit × DataW H) → Nat
  | [] => 0
  | x :: r => uptoBulkEntry x + uptoBulkEntries r
def uptoBulkEntry {H : Type} : Lit × DataW H → Nat
  | (.string bytes, d) => bytes.length + uptoBulk d + 1
  | (_, d) => uptoBulk d + 1
 end
def uptoSmall : (H : Type) → List (DataW H) → Bool := fun _ ds => decide (uptoBulkAll ds ≤ 1048576)
def OpenSpec.upto (s : _root_.Go.ChangeSpec) : _root_.Go.OpenSpec := { _root_.Go.OpenSpec.ofChange s with cond := some uptoSmall }

/-- 'shardqueuelaw10.DirectoryEnds', WHERE WHAT IT READS IS OF BULK AT MOST 1048576: true; the input reads as it did. -/
def directoryEndsUptoRow : OpenClaim := { program := "ytlphhhmicdjljab", sum := "8e404479a3624c22cbbd5cafee5d890396b2214e78ede4d7b9316b1533a81581", func := "shardqueue/shardqueuelaw10.DirectoryEnds", spec := "directoryEnds", inPlace := ["slices.overlaps[shardqueue/api.Span]"], unfollowed := true, recurses := true, apart := false, narrowed := true }
def DirectoryEndsUptoSaid : Prop := directoryEndsUptoRow.holds Try.pinned (OpenSpec.upto directoryEndsSpec)

/-- 'shardqueuelaw05.DueUntil', WHERE WHAT IT READS IS OF BULK AT MOST 1048576: true; the input reads as it did. -/
def dueUntilUptoRow : OpenClaim := { program := "ytlphhhmicdjljab", sum := "8e404479a3624c22cbbd5cafee5d890396b2214e78ede4d7b9316b1533a81581", func := "shardqueue/shardqueuelaw05.DueUntil", spec := "dueUntil", unfollowed := true, recurses := true, apart := false, narrowed := true }
def DueUntilUptoSaid : Prop := dueUntilUptoRow.holds Try.pinned (OpenSpec.upto dueUntilSpec)

/-- 'shardqueuelaw05.DueRaw', WHERE WHAT IT READS IS OF BULK AT MOST 1048576: true; the input reads as it did. -/
def dueRawUptoRow : OpenClaim := { program := "ytlphhhmicdjljab", sum := "8e404479a3624c22cbbd5cafee5d890396b2214e78ede4d7b9316b1533a81581", func := "shardqueue/shardqueuelaw05.DueRaw", spec := "dueRaw", unfollowed := true, recurses := true, apart := false, narrowed := true }
def DueRawUptoSaid : Prop := dueRawUptoRow.holds Try.pinned (OpenSpec.upto dueRawSpec)

/-- 'shardqueuelaw05.DueBuilt', WHERE WHAT IT READS IS OF BULK AT MOST 1048576: true; the input reads as it did. -/
def dueBuiltUptoRow : OpenClaim := { program := "ytlphhhmicdjljab", sum := "8e404479a3624c22cbbd5cafee5d890396b2214e78ede4d7b9316b1533a81581", func := "shardqueue/shardqueuelaw05.DueBuilt", spec := "dueBuilt", unfollowed := true, recurses := true, apart := false, narrowed := true }
def DueBuiltUptoSaid : Prop := dueBuiltUptoRow.holds Try.pinned (OpenSpec.upto dueBuiltSpec)

end Rows
end Go.Proofs.Ytlphhhmicdjljab
