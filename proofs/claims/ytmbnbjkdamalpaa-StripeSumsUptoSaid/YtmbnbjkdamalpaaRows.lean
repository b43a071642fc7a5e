/-
  No cell of these rows narrows 'for every input' (looked for: loops, veiled, ifaces, maps, wideKeys, modest, calm, conditions, laid).
  DERIVED. THE GIVEN ROWS OF THIS SEAT. 3 by the template 'for every input the law returns true; each argument reads behind the call as it read before'; 0 by the template 'total and deterministic' (their statements: YtmbnbjkdamalpaaTotals.lean).
  GIVEN WITH THE SEED: the statements are not yours to turn. If you find one false, say at which input.
  Laid BY PROGRAM, IN A SANDBOX (cutbox-rows.mjs): the forced cells as the released guide's own fill.sh prints them over the translation e7ccab578377a635… (all of the seat's roots in one cut). By AI agents, Wed Nov 11 2026. No macro, syntax, notation, axiom, sorry.
-/
import Derived.Test.YtmbnbjkdamalpaaChecked
import GoSem.Claim
import GoSem.ClaimJoined
import GoSem.ClaimMapViews
import Derived.JoinedTies
import Derived.KernelRfl
namespace Go.Proofs.Ytmbnbjkdamalpaa
/- THE CELL 'sum', in the pinned program and in every row, IS THE sha256 OF THE DUMP (.gsa) THAT YtmbnbjkdamalpaaProg.lean LOADS. Nothing in Lean hashes anything: it is a label: what it is worth is what the hold of that sum in a sandbox is worth. -/
noncomputable def Try.pinned : Pinned := { name := "ytmbnbjkdamalpaa", sum := "e7ccab578377a635935720d71dad9504dd22d3382b15bdbaa0c5d5fc3d0399c6", checked := Try.checked }
namespace Rows
def none {H : Type} : Left H := { results := [], args := [] }

/-- 'shardqueuelaw11.StripeSums': WHATEVER THE INPUT: true; the input reads as it did. -/
def stripeSumsSpec : ChangeSpec := { name := "stripeSums", fn := fun _ => fun
  | [d] => { results := [.lit (.bool true)], args := [d] }
  | _ => none }
def stripeSumsRow : OpenClaim := { program := "ytmbnbjkdamalpaa", sum := "e7ccab578377a635935720d71dad9504dd22d3382b15bdbaa0c5d5fc3d0399c6", func := "shardqueue/shardqueuelaw11.StripeSums", spec := "stripeSums", unfollowed := true, recurses := true, apart := false }
def StripeSumsSaid : Prop := stripeSumsRow.holds Try.pinned (OpenSpec.ofChange stripeSumsSpec)

/-- ITS FALSE NEIGHBOUR: 'it returns false'. Refute it at one input. -/
def stripeSumsWrong : ChangeSpec := { name := "stripeSums", fn := fun _ => fun
  | [d] => { results := [.lit (.bool false)], args := [d] }
  | _ => none }
def StripeSumsWrongFalsely : Prop := stripeSumsRow.holds Try.pinned (OpenSpec.ofChange stripeSumsWrong)

/-- 'shardqueuelaw11.StripeRaw': WHATEVER THE INPUT: true; the input reads as it did. -/
def stripeRawSpec : ChangeSpec := { name := "stripeRaw", fn := fun _ => fun
  | [d1, d2, d3, d4, d5, d6] => { results := [.lit (.bool true)], args := [d1, d2, d3, d4, d5, d6] }
  | _ => none }
def stripeRawRow : OpenClaim := { program := "ytmbnbjkdamalpaa", sum := "e7ccab578377a635935720d71dad9504dd22d3382b15bdbaa0c5d5fc3d0399c6", func := "shardqueue/shardqueuelaw11.StripeRaw", spec := "stripeRaw", unfollowed := true, recurses := true, apart := false }
def StripeRawSaid : Prop := stripeRawRow.holds Try.pinned (OpenSpec.ofChange stripeRawSpec)

/-- ITS FALSE NEIGHBOUR: 'it returns false'. Refute it at one input. -/
def stripeRawWrong : ChangeSpec := { name := "stripeRaw", fn := fun _ => fun
  | [d1, d2, d3, d4, d5, d6] => { results := [.lit (.bool false)], args := [d1, d2, d3, d4, d5, d6] }
  | _ => none }
def StripeRawWrongFalsely : Prop := stripeRawRow.holds Try.pinned (OpenSpec.ofChange stripeRawWrong)

/-- 'shardqueuelaw11.StripeCounts': WHATEVER THE INPUT: true; the input reads as it did. -/
def stripeCountsSpec : ChangeSpec := { name := "stripeCounts", fn := fun _ => fun
  | [d] => { results := [.lit (.bool true)], args := [d] }
  | _ => none }
def stripeCountsRow : OpenClaim := { program := "ytmbnbjkdamalpaa", sum := "e7ccab578377a635935720d71dad9504dd22d3382b15bdbaa0c5d5fc3d0399c6", func := "shardqueue/shardqueuelaw11.StripeCounts", spec := "stripeCounts", unfollowed := true, recurses := true, apart := false }
def StripeCountsSaid : Prop := stripeCountsRow.holds Try.pinned (OpenSpec.ofChange stripeCountsSpec)

/-- ITS FALSE NEIGHBOUR: 'it returns false'. Refute it at one input. -/
def stripeCountsWrong : ChangeSpec := { name := "stripeCounts", fn := fun _ => fun
  | [d] => { results := [.lit (.bool false)], args := [d] }
  | _ => none }
def StripeCountsWrongFalsely : Prop := stripeCountsRow.holds Try.pinned (OpenSpec.ofChange stripeCountsWrong)

/- THE SECOND FORM. 'bulk': how many values and letters a reading holds, each counted each time it is reached (what is shared counts as often as it is met; a slice's spare places count too). A statement '..UptoSaid' is the law's where the arguments, and the package variables that the reading takes, are together of bulk at most 1048576: NARROWER than '..Said'. Prove '..Said' where nothing that the law and all that it calls make is longer than what came in: it says more and counts as full. Else prove '..UptoSaid'. A law counts once. -/
mutual
def uptoBulk {H : Type} : DataW H → Nat
  | .lit (.string bytes) => bytes.length + 1
  | .lit _ => 1
  | .nil => 1
  | .ptr d => uptoBulk d + 1
  | .slice elems spare => uptoBulkAll elems + uptoBulkAll spare + 1
  | .agg parts => uptoBulkAll parts + 1
  | .iface _ d => uptoBulk d + 1
  | .map entries => uptoBulkEntries entries + 1
  | .held _ => 1
def uptoBulkAll {H : Type} : List (DataW H) → Nat
  | [] => 0
  | d :: r => uptoBulk d + uptoBulkAll r
def uptoBulkEntries {H : Type} : List (Lit × DataW H) → Nat
  | [] => 0
  | x :: r => uptoBulkEntry x + uptoBulkEntries r
def uptoBulkEntry {H : Type} : Lit × DataW H → Nat
  | (.string bytes, d) => bytes.length + uptoBulk d + 1
  | (_, d) => uptoBulk d + 1
 end
def uptoSmall : (H : Type) → List (DataW H) → Bool := fun _ ds => decide (uptoBulkAll ds ≤ 1048576)
def OpenSpec.upto (s : _root_.Go.ChangeSpec) : _root_.Go.OpenSpec := { _root_.Go.OpenSpec.ofChange s with cond := some uptoSmall }

/-- 'shardqueuelaw11.StripeSums', WHERE WHAT IT READS IS OF BULK AT MOST 1048576: true; the input reads as it did. -/
def stripeSumsUptoRow : OpenClaim := { program := "ytmbnbjkdamalpaa", sum := "e7ccab578377a635935720d71dad9504dd22d3382b15bdbaa0c5d5fc3d0399c6", func := "shardqueue/shardqueuelaw11.StripeSums", spec := "stripeSums", unfollowed := true, recurses := true, apart := false, narrowed := true }
def StripeSumsUptoSaid : Prop := stripeSumsUptoRow.holds Try.pinned (OpenSpec.upto stripeSumsSpec)

/-- 'shardqueuelaw11.StripeRaw', WHERE WHAT IT READS IS OF BULK AT MOST 1048576: true; the input reads as it did. -/
def stripeRawUptoRow : OpenClaim := { program := "ytmbnbjkdamalpaa", sum := "e7ccab578377a635935720d71dad9504dd22d3382b15bdbaa0c5d5fc3d0399c6", func := "shardqueue/shardqueuelaw11.StripeRaw", spec := "stripeRaw", unfollowed := true, recurses := true, apart := false, narrowed := true }
def StripeRawUptoSaid : Prop := stripeRawUptoRow.holds Try.pinned (OpenSpec.upto stripeRawSpec)

/-- 'shardqueuelaw11.StripeCounts', WHERE WHAT IT READS IS OF BULK AT MOST 1048576: true; the input reads as it did. -/
def stripeCountsUptoRow : OpenClaim := { program := "ytmbnbjkdamalpaa", sum := "e7ccab578377a635935720d71dad9504dd22d3382b15bdbaa0c5d5fc3d0399c6", func := "shardqueue/shardqueuelaw11.StripeCounts", spec := "stripeCounts", unfollowed := true, recurses := true, apart := false, narrowed := true }
def StripeCountsUptoSaid : Prop := stripeCountsUptoRow.holds Try.pinned (OpenSpec.upto stripeCountsSpec)

end Rows
end Go.Proofs.Ytmbnbjkdamalpaa
