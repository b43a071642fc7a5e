/-
  No cell of these rows narrows 'for every input' (looked for: loops, veiled, ifaces, maps, wideKeys, modest, calm, conditions, laid).
  DERIVED. THE GIVEN ROWS OF THIS SEAT. 3 by the template 'for every input the law returns true; each argument reads behind the call as it read before'; 0 by the template 'total and deterministic' (their statements: YtjalkkalhdnplaaGreatTotals.lean).
  GIVEN WITH THE SEED: the statements are not yours to turn. If you find one false, say at which input.
  Laid BY PROGRAM, IN A SANDBOX (cutbox-rows.mjs): the forced cells as the released guide's own fill.sh prints them over the translation cd83b815f4f46c5c… (all of the seat's roots in one cut). By AI agents, Wed Nov 11 2026. No macro, syntax, notation, axiom, sorry.
-/
import Derived.Test.YtjalkkalhdnplaaGreatChecked
import GoSem.Claim
import GoSem.ClaimJoined
import GoSem.ClaimMapViews
import Derived.JoinedTies
import Derived.KernelRfl
namespace Go.Proofs.YtjalkkalhdnplaaGreat
/- THE CELL 'sum', in the pinned program and in every row, IS THE sha256 OF THE DUMP (.gsa) THAT YtjalkkalhdnplaaGreatProg.lean LOADS. Nothing in Lean hashes anything: it is a label: what it is worth is what the hold of that sum in a sandbox is worth. -/
noncomputable def Tryz.pinned : Pinned := { name := "ytjalkkalhdnplaagreat", sum := "cd83b815f4f46c5c27174dbd2d887baf1a22388c4f5f2153e3e059e793500fd5", checked := Tryz.checked }
namespace Rows
def none {H : Type} : Left H := { results := [], args := [] }

/-- 'shardqueuelaw22.CountBetween': WHATEVER THE INPUT: true; the input reads as it did. -/
def countBetweenSpec : ChangeSpec := { name := "countBetween", fn := fun _ => fun
  | [d] => { results := [.lit (.bool true)], args := [d] }
  | _ => none }
def countBetweenRow : OpenClaim := { program := "ytjalkkalhdnplaagreat", sum := "cd83b815f4f46c5c27174dbd2d887baf1a22388c4f5f2153e3e059e793500fd5", func := "shardqueue/shardqueuelaw22.CountBetween", spec := "countBetween", unfollowed := true, recurses := true, apart := false }
def CountBetweenSaid : Prop := countBetweenRow.holds Tryz.pinned (OpenSpec.ofChange countBetweenSpec)

/-- ITS FALSE NEIGHBOUR: 'it returns false'. Refute it at one input. -/
def countBetweenWrong : ChangeSpec := { name := "countBetween", fn := fun _ => fun
  | [d] => { results := [.lit (.bool false)], args := [d] }
  | _ => none }
def CountBetweenWrongFalsely : Prop := countBetweenRow.holds Tryz.pinned (OpenSpec.ofChange countBetweenWrong)

/-- 'shardqueuelaw22.CountExact': WHATEVER THE INPUT: true; the input reads as it did. -/
def countExactSpec : ChangeSpec := { name := "countExact", fn := fun _ => fun
  | [d] => { results := [.lit (.bool true)], args := [d] }
  | _ => none }
def countExactRow : OpenClaim := { program := "ytjalkkalhdnplaagreat", sum := "cd83b815f4f46c5c27174dbd2d887baf1a22388c4f5f2153e3e059e793500fd5", func := "shardqueue/shardqueuelaw22.CountExact", spec := "countExact", unfollowed := true, recurses := true, apart := false }
def CountExactSaid : Prop := countExactRow.holds Tryz.pinned (OpenSpec.ofChange countExactSpec)

/-- ITS FALSE NEIGHBOUR: 'it returns false'. Refute it at one input. -/
def countExactWrong : ChangeSpec := { name := "countExact", fn := fun _ => fun
  | [d] => { results := [.lit (.bool false)], args := [d] }
  | _ => none }
def CountExactWrongFalsely : Prop := countExactRow.holds Tryz.pinned (OpenSpec.ofChange countExactWrong)

/-- 'shardqueuelaw12.ArenaStores': WHATEVER THE INPUT: true; the input reads as it did. -/
def arenaStoresSpec : ChangeSpec := { name := "arenaStores", fn := fun _ => fun
  | [d1, d2, d3, d4] => { results := [.lit (.bool true)], args := [d1, d2, d3, d4] }
  | _ => none }
def arenaStoresRow : OpenClaim := { program := "ytjalkkalhdnplaagreat", sum := "cd83b815f4f46c5c27174dbd2d887baf1a22388c4f5f2153e3e059e793500fd5", func := "shardqueue/shardqueuelaw12.ArenaStores", spec := "arenaStores", unfollowed := true, recurses := true, apart := false }
def ArenaStoresSaid : Prop := arenaStoresRow.holds Tryz.pinned (OpenSpec.ofChange arenaStoresSpec)

/-- ITS FALSE NEIGHBOUR: 'it returns false'. Refute it at one input. -/
def arenaStoresWrong : ChangeSpec := { name := "arenaStores", fn := fun _ => fun
  | [d1, d2, d3, d4] => { results := [.lit (.bool false)], args := [d1, d2, d3, d4] }
  | _ => none }
def ArenaStoresWrongFalsely : Prop := arenaStoresRow.holds Tryz.pinned (OpenSpec.ofChange arenaStoresWrong)

/- THE SECOND FORM. 'bulk': how many values and letters a reading holds, each counted each time it is reached (what is shared counts as often as it is met; a slice's spare places count too). A statement '..UptoSaid' is the law's where the arguments, and the package variables that the reading takes, are together of bulk at most 1048576: NARROWER than '..Said'. Prove '..Said' where nothing that the law and all that it calls make is longer than what came in: it says more and counts as full. Else prove '..UptoSaid'. A law counts once. -/
mutual
def uptoBulk {H : Type} : DataW H → Nat
  | .lit (.string bytes) => bytes.length + 1
  | .lit _ => 1
  | .nil => 1
  | .ptr d => uptoBulk d + 1
  | .slice elems spare => uptoBulkAll elems + uptoBulkAll spare + 1
  | .agg parts => uptoBulkAll parts + 1
  | .iface _ d => uptoBulk d + 1
  | .map entries => uptoBulkEntries entries + 1
  | .held _ => 1
def uptoBulkAll {H : Type} : List (DataW H) → Nat
  | [] => 0
  | d :: r => uptoBulk d + uptoBulkAll r
def uptoBulkEntries {H : Type} : List (Lit × DataW H) → Nat
  | [] => 0
  | x :: r => uptoBulkEntry x + uptoBulkEntries r
def uptoBulkEntry {H : Type} : Lit × DataW H → Nat
  | (.string bytes, d) => bytes.length + uptoBulk d + 1
  | (_, d) => uptoBulk d + 1
 end
def uptoSmall : (H : Type) → List (DataW H) → Bool := fun _ ds => decide (uptoBulkAll ds ≤ 1048576)
def OpenSpec.upto (s : _root_.Go.ChangeSpec) : _root_.Go.OpenSpec := { _root_.Go.OpenSpec.ofChange s with cond := some uptoSmall }

/-- 'shardqueuelaw22.CountBetween', WHERE WHAT IT READS IS OF BULK AT MOST 1048576: true; the input reads as it did. -/
def countBetweenUptoRow : OpenClaim := { program := "ytjalkkalhdnplaagreat", sum := "cd83b815f4f46c5c27174dbd2d887baf1a22388c4f5f2153e3e059e793500fd5", func := "shardqueue/shardqueuelaw22.CountBetween", spec := "countBetween", unfollowed := true, recurses := true, apart := false, narrowed := true }
def CountBetweenUptoSaid : Prop := countBetweenUptoRow.holds Tryz.pinned (OpenSpec.upto countBetweenSpec)

/-- 'shardqueuelaw22.CountExact', WHERE WHAT IT READS IS OF BULK AT MOST 1048576: true; the input reads as it did. -/
def countExactUptoRow : OpenClaim := { program := "ytjalkkalhdnplaagreat", sum := "cd83b815f4f46c5c27174dbd2d887baf1a22388c4f5f2153e3e059e793500fd5", func := "shardqueue/shardqueuelaw22.CountExact", spec := "countExact", unfollowed := true, recurses := true, apart := false, narrowed := true }
def CountExactUptoSaid : Prop := countExactUptoRow.holds Tryz.pinned (OpenSpec.upto countExactSpec)

/-- 'shardqueuelaw12.ArenaStores', WHERE WHAT IT READS IS OF BULK AT MOST 1048576: true; the input reads as it did. -/
def arenaStoresUptoRow : OpenClaim := { program := "ytjalkkalhdnplaagreat", sum := "cd83b815f4f46c5c27174dbd2d887baf1a22388c4f5f2153e3e059e793500fd5", func := "shardqueue/shardqueuelaw12.ArenaStores", spec := "arenaStores", unfollowed := true, recurses := true, apart := false, narrowed := true }
def ArenaStoresUptoSaid : Prop := arenaStoresUptoRow.holds Tryz.pinned (OpenSpec.upto arenaStoresSpec)

end Rows
end Go.Proofs.YtjalkkalhdnplaaGreat
