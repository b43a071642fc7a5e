/-
  The types of package api, as they lie in memory.
  The reader of numbers.
-/
import Derived.Test.YtjillamaceggeaaGreatB9d0c6dd
set_option linter.unusedSimpArgs false
set_option linter.unusedVariables false
namespace Go.Proofs.YtjillamaceggeaaGreat
open Go Go.Sim
set_option linter.unusedSimpArgs false
set_option linter.unusedVariables false
set_option maxHeartbeats 10000000
abbrev ints (l : List Int) : List D := l.map (.int .i64)
theorem allSize_ints (l : List Int) : allSize 1 (ints l) = true := by simp [allSize, D.size, D.cells]
def eBytes (b : List UInt8) : D := .sl (byD b)
theorem allSize_bytes (l : List (List UInt8)) : allSize 1 (l.map eBytes) = true := by simp [allSize, D.size, D.cells, eBytes]
theorem allSize_strs (l : List (List UInt8)) : allSize 1 (l.map D.str) = true := by simp [allSize, D.size, D.cells]
abbrev Due := Int × Int
def eD (d : Due) : D := .agg [.int .i64 d.1, .int .i64 d.2]
theorem eD_cells (d : Due) : (eD d).cells = [.int .i64 d.1, .int .i64 d.2] := rfl
theorem eD_size (d : Due) : (eD d).size = 2 := rfl
theorem eD_asAgg (d : Due) : (eD d).asAgg = eD d := rfl
theorem eD_isT (d : Due) : (eD d).isT = false := rfl
theorem allSize_eD (h : List Due) : allSize 2 (h.map eD) = true := by simp [allSize, eD_size]
structure Span where
  low : Int
  high : Int
  shard : Int
  deriving DecidableEq
def zSpan : Span := ⟨0, 0, 0⟩
instance : Inhabited Span := ⟨zSpan⟩
def eSpan (x : Span) : D := .agg [.int .i64 x.low, .int .i64 x.high, .int .i64 x.shard]
theorem eSpan_cells (x : Span) : (eSpan x).cells = [.int .i64 x.low, .int .i64 x.high, .int .i64 x.shard] := rfl
theorem eSpan_size (x : Span) : (eSpan x).size = 3 := rfl
theorem eSpan_asAgg (x : Span) : (eSpan x).asAgg = eSpan x := rfl
theorem eSpan_isT (x : Span) : (eSpan x).isT = false := rfl
theorem allSize_Span (l : List Span) : allSize 3 (l.map eSpan) = true := by simp [allSize, eSpan_size]
structure Directory where
  version : Int
  l : List Span
  forward : List Int
  deriving DecidableEq
def zDirectory : Directory := ⟨0, [], []⟩
instance : Inhabited Directory := ⟨zDirectory⟩
def eDirectory (x : Directory) : D := .agg [.int .i64 x.version, .sl (x.l.map eSpan), .sl (ints x.forward)]
theorem eDirectory_cells (x : Directory) : (eDirectory x).cells = [.int .i64 x.version, .sl (x.l.map eSpan), .sl (ints x.forward)] := rfl
theorem eDirectory_size (x : Directory) : (eDirectory x).size = 3 := rfl
theorem eDirectory_asAgg (x : Directory) : (eDirectory x).asAgg = eDirectory x := rfl
theorem eDirectory_isT (x : Directory) : (eDirectory x).isT = false := rfl
theorem allSize_Directory (l : List Directory) : allSize 3 (l.map eDirectory) = true := by simp [allSize, eDirectory_size]
structure Edit where
  kind : Int
  from_ : Int
  to : Int
  mid : Int
  deriving DecidableEq
def zEdit : Edit := ⟨0, 0, 0, 0⟩
instance : Inhabited Edit := ⟨zEdit⟩
def eEdit (x : Edit) : D := .agg [.int .i64 x.kind, .int .i64 x.from_, .int .i64 x.to, .int .i64 x.mid]
theorem eEdit_cells (x : Edit) : (eEdit x).cells = [.int .i64 x.kind, .int .i64 x.from_, .int .i64 x.to, .int .i64 x.mid] := rfl
theorem eEdit_size (x : Edit) : (eEdit x).size = 4 := rfl
theorem eEdit_asAgg (x : Edit) : (eEdit x).asAgg = eEdit x := rfl
theorem eEdit_isT (x : Edit) : (eEdit x).isT = false := rfl
theorem allSize_Edit (l : List Edit) : allSize 4 (l.map eEdit) = true := by simp [allSize, eEdit_size]
structure Setup where
  slots : Int
  live : Int
  capacity : Int
  dead : Int
  limit : Int
  clock : Int
  nextID : Int
  epoch : Int
  deriving DecidableEq
def zSetup : Setup := ⟨0, 0, 0, 0, 0, 0, 0, 0⟩
instance : Inhabited Setup := ⟨zSetup⟩
def eSetup (x : Setup) : D := .agg [.int .i64 x.slots, .int .i64 x.live, .int .i64 x.capacity, .int .i64 x.dead, .int .i64 x.limit, .int .i64 x.clock, .int .i64 x.nextID, .int .i64 x.epoch]
theorem eSetup_cells (x : Setup) : (eSetup x).cells = [.int .i64 x.slots, .int .i64 x.live, .int .i64 x.capacity, .int .i64 x.dead, .int .i64 x.limit, .int .i64 x.clock, .int .i64 x.nextID, .int .i64 x.epoch] := rfl
theorem eSetup_size (x : Setup) : (eSetup x).size = 8 := rfl
theorem eSetup_asAgg (x : Setup) : (eSetup x).asAgg = eSetup x := rfl
theorem eSetup_isT (x : Setup) : (eSetup x).isT = false := rfl
theorem allSize_Setup (l : List Setup) : allSize 8 (l.map eSetup) = true := by simp [allSize, eSetup_size]
structure Message where
  id : Int
  route : Int
  epoch : Int
  count : Int
  gen : Int
  sent : Int
  body : List UInt8
  deriving DecidableEq
def zMessage : Message := ⟨0, 0, 0, 0, 0, 0, []⟩
instance : Inhabited Message := ⟨zMessage⟩
def eMessage (x : Message) : D := .agg [.int .i64 x.id, .int .i64 x.route, .int .i64 x.epoch, .int .i64 x.count, .int .i64 x.gen, .int .i64 x.sent, .str x.body]
theorem eMessage_cells (x : Message) : (eMessage x).cells = [.int .i64 x.id, .int .i64 x.route, .int .i64 x.epoch, .int .i64 x.count, .int .i64 x.gen, .int .i64 x.sent, .str x.body] := rfl
theorem eMessage_size (x : Message) : (eMessage x).size = 7 := rfl
theorem eMessage_asAgg (x : Message) : (eMessage x).asAgg = eMessage x := rfl
theorem eMessage_isT (x : Message) : (eMessage x).isT = false := rfl
theorem allSize_Message (l : List Message) : allSize 7 (l.map eMessage) = true := by simp [allSize, eMessage_size]
structure Ring where
  cells : List Message
  head : Int
  size : Int
  deriving DecidableEq
def zRing : Ring := ⟨[], 0, 0⟩
instance : Inhabited Ring := ⟨zRing⟩
def eRing (x : Ring) : D := .agg [.sl (x.cells.map eMessage), .int .i64 x.head, .int .i64 x.size]
theorem eRing_cells (x : Ring) : (eRing x).cells = [.sl (x.cells.map eMessage), .int .i64 x.head, .int .i64 x.size] := rfl
theorem eRing_size (x : Ring) : (eRing x).size = 3 := rfl
theorem eRing_asAgg (x : Ring) : (eRing x).asAgg = eRing x := rfl
theorem eRing_isT (x : Ring) : (eRing x).isT = false := rfl
theorem allSize_Ring (l : List Ring) : allSize 3 (l.map eRing) = true := by simp [allSize, eRing_size]
structure Lease where
  msg : Message
  deadline : Int
  deriving DecidableEq
def zLease : Lease := ⟨⟨0, 0, 0, 0, 0, 0, []⟩, 0⟩
instance : Inhabited Lease := ⟨zLease⟩
def eLease (x : Lease) : D := .agg [.int .i64 x.msg.id, .int .i64 x.msg.route, .int .i64 x.msg.epoch, .int .i64 x.msg.count, .int .i64 x.msg.gen, .int .i64 x.msg.sent, .str x.msg.body, .int .i64 x.deadline]
theorem eLease_cells (x : Lease) : (eLease x).cells = [.int .i64 x.msg.id, .int .i64 x.msg.route, .int .i64 x.msg.epoch, .int .i64 x.msg.count, .int .i64 x.msg.gen, .int .i64 x.msg.sent, .str x.msg.body, .int .i64 x.deadline] := rfl
theorem eLease_size (x : Lease) : (eLease x).size = 8 := rfl
theorem eLease_asAgg (x : Lease) : (eLease x).asAgg = eLease x := rfl
theorem eLease_isT (x : Lease) : (eLease x).isT = false := rfl
theorem allSize_Lease (l : List Lease) : allSize 8 (l.map eLease) = true := by simp [allSize, eLease_size]
structure Table where
  l : List Lease
  heap : List Due
  deriving DecidableEq
def zTable : Table := ⟨[], []⟩
instance : Inhabited Table := ⟨zTable⟩
def eTable (x : Table) : D := .agg [.sl (x.l.map eLease), .sl (x.heap.map eD)]
theorem eTable_cells (x : Table) : (eTable x).cells = [.sl (x.l.map eLease), .sl (x.heap.map eD)] := rfl
theorem eTable_size (x : Table) : (eTable x).size = 2 := rfl
theorem eTable_asAgg (x : Table) : (eTable x).asAgg = eTable x := rfl
theorem eTable_isT (x : Table) : (eTable x).isT = false := rfl
theorem allSize_Table (l : List Table) : allSize 2 (l.map eTable) = true := by simp [allSize, eTable_size]
structure Shard where
  live : Bool
  low : Int
  high : Int
  ready : Ring
  leases : Table
  deriving DecidableEq
def zShard : Shard := ⟨false, 0, 0, ⟨[], 0, 0⟩, ⟨[], []⟩⟩
instance : Inhabited Shard := ⟨zShard⟩
def eShard (x : Shard) : D := .agg [.bool x.live, .int .i64 x.low, .int .i64 x.high, .sl (x.ready.cells.map eMessage), .int .i64 x.ready.head, .int .i64 x.ready.size, .sl (x.leases.l.map eLease), .sl (x.leases.heap.map eD)]
theorem eShard_cells (x : Shard) : (eShard x).cells = [.bool x.live, .int .i64 x.low, .int .i64 x.high, .sl (x.ready.cells.map eMessage), .int .i64 x.ready.head, .int .i64 x.ready.size, .sl (x.leases.l.map eLease), .sl (x.leases.heap.map eD)] := rfl
theorem eShard_size (x : Shard) : (eShard x).size = 8 := rfl
theorem eShard_asAgg (x : Shard) : (eShard x).asAgg = eShard x := rfl
theorem eShard_isT (x : Shard) : (eShard x).isT = false := rfl
theorem allSize_Shard (l : List Shard) : allSize 8 (l.map eShard) = true := by simp [allSize, eShard_size]
structure Slot where
  owner : Int
  shard : Shard
  deriving DecidableEq
def zSlot : Slot := ⟨0, ⟨false, 0, 0, ⟨[], 0, 0⟩, ⟨[], []⟩⟩⟩
instance : Inhabited Slot := ⟨zSlot⟩
def eSlot (x : Slot) : D := .agg [.int .i64 x.owner, .bool x.shard.live, .int .i64 x.shard.low, .int .i64 x.shard.high, .sl (x.shard.ready.cells.map eMessage), .int .i64 x.shard.ready.head, .int .i64 x.shard.ready.size, .sl (x.shard.leases.l.map eLease), .sl (x.shard.leases.heap.map eD)]
theorem eSlot_cells (x : Slot) : (eSlot x).cells = [.int .i64 x.owner, .bool x.shard.live, .int .i64 x.shard.low, .int .i64 x.shard.high, .sl (x.shard.ready.cells.map eMessage), .int .i64 x.shard.ready.head, .int .i64 x.shard.ready.size, .sl (x.shard.leases.l.map eLease), .sl (x.shard.leases.heap.map eD)] := rfl
theorem eSlot_size (x : Slot) : (eSlot x).size = 9 := rfl
theorem eSlot_asAgg (x : Slot) : (eSlot x).asAgg = eSlot x := rfl
theorem eSlot_isT (x : Slot) : (eSlot x).isT = false := rfl
theorem allSize_Slot (l : List Slot) : allSize 9 (l.map eSlot) = true := by simp [allSize, eSlot_size]
structure Stripe where
  seq : Int
  epoch : Int
  ready : Int
  leased : Int
  deriving DecidableEq
def zStripe : Stripe := ⟨0, 0, 0, 0⟩
instance : Inhabited Stripe := ⟨zStripe⟩
def eStripe (x : Stripe) : D := .agg [.int .i64 x.seq, .int .i64 x.epoch, .int .i64 x.ready, .int .i64 x.leased]
theorem eStripe_cells (x : Stripe) : (eStripe x).cells = [.int .i64 x.seq, .int .i64 x.epoch, .int .i64 x.ready, .int .i64 x.leased] := rfl
theorem eStripe_size (x : Stripe) : (eStripe x).size = 4 := rfl
theorem eStripe_asAgg (x : Stripe) : (eStripe x).asAgg = eStripe x := rfl
theorem eStripe_isT (x : Stripe) : (eStripe x).isT = false := rfl
theorem allSize_Stripe (l : List Stripe) : allSize 4 (l.map eStripe) = true := by simp [allSize, eStripe_size]
structure Dead where
  cap : Int
  l : List Message
  deriving DecidableEq
def zDead : Dead := ⟨0, []⟩
instance : Inhabited Dead := ⟨zDead⟩
def eDead (x : Dead) : D := .agg [.int .i64 x.cap, .sl (x.l.map eMessage)]
theorem eDead_cells (x : Dead) : (eDead x).cells = [.int .i64 x.cap, .sl (x.l.map eMessage)] := rfl
theorem eDead_size (x : Dead) : (eDead x).size = 2 := rfl
theorem eDead_asAgg (x : Dead) : (eDead x).asAgg = eDead x := rfl
theorem eDead_isT (x : Dead) : (eDead x).isT = false := rfl
theorem allSize_Dead (l : List Dead) : allSize 2 (l.map eDead) = true := by simp [allSize, eDead_size]
structure DeadCell where
  owner : Int
  dead : Dead
  deriving DecidableEq
def zDeadCell : DeadCell := ⟨0, ⟨0, []⟩⟩
instance : Inhabited DeadCell := ⟨zDeadCell⟩
def eDeadCell (x : DeadCell) : D := .agg [.int .i64 x.owner, .int .i64 x.dead.cap, .sl (x.dead.l.map eMessage)]
theorem eDeadCell_cells (x : DeadCell) : (eDeadCell x).cells = [.int .i64 x.owner, .int .i64 x.dead.cap, .sl (x.dead.l.map eMessage)] := rfl
theorem eDeadCell_size (x : DeadCell) : (eDeadCell x).size = 3 := rfl
theorem eDeadCell_asAgg (x : DeadCell) : (eDeadCell x).asAgg = eDeadCell x := rfl
theorem eDeadCell_isT (x : DeadCell) : (eDeadCell x).isT = false := rfl
theorem allSize_DeadCell (l : List DeadCell) : allSize 3 (l.map eDeadCell) = true := by simp [allSize, eDeadCell_size]
structure Arena where
  slots : List Slot
  stripes : List Stripe
  dead : DeadCell
  dir : Directory
  epoch : Int
  clock : Int
  nextID : Int
  deriving DecidableEq
def zArena : Arena := ⟨[], [], ⟨0, ⟨0, []⟩⟩, ⟨0, [], []⟩, 0, 0, 0⟩
instance : Inhabited Arena := ⟨zArena⟩
def eArena (x : Arena) : D := .agg [.sl (x.slots.map eSlot), .sl (x.stripes.map eStripe), .int .i64 x.dead.owner, .int .i64 x.dead.dead.cap, .sl (x.dead.dead.l.map eMessage), .int .i64 x.dir.version, .sl (x.dir.l.map eSpan), .sl (ints x.dir.forward), .int .i64 x.epoch, .int .i64 x.clock, .int .i64 x.nextID]
theorem eArena_cells (x : Arena) : (eArena x).cells = [.sl (x.slots.map eSlot), .sl (x.stripes.map eStripe), .int .i64 x.dead.owner, .int .i64 x.dead.dead.cap, .sl (x.dead.dead.l.map eMessage), .int .i64 x.dir.version, .sl (x.dir.l.map eSpan), .sl (ints x.dir.forward), .int .i64 x.epoch, .int .i64 x.clock, .int .i64 x.nextID] := rfl
theorem eArena_size (x : Arena) : (eArena x).size = 11 := rfl
theorem eArena_asAgg (x : Arena) : (eArena x).asAgg = eArena x := rfl
theorem eArena_isT (x : Arena) : (eArena x).isT = false := rfl
theorem allSize_Arena (l : List Arena) : allSize 11 (l.map eArena) = true := by simp [allSize, eArena_size]
structure Snapshot where
  phase : Int
  epoch : Int
  clock : Int
  stamp : Int
  deriving DecidableEq
def zSnapshot : Snapshot := ⟨0, 0, 0, 0⟩
instance : Inhabited Snapshot := ⟨zSnapshot⟩
def eSnapshot (x : Snapshot) : D := .agg [.int .i64 x.phase, .int .i64 x.epoch, .int .i64 x.clock, .int .i64 x.stamp]
theorem eSnapshot_cells (x : Snapshot) : (eSnapshot x).cells = [.int .i64 x.phase, .int .i64 x.epoch, .int .i64 x.clock, .int .i64 x.stamp] := rfl
theorem eSnapshot_size (x : Snapshot) : (eSnapshot x).size = 4 := rfl
theorem eSnapshot_asAgg (x : Snapshot) : (eSnapshot x).asAgg = eSnapshot x := rfl
theorem eSnapshot_isT (x : Snapshot) : (eSnapshot x).isT = false := rfl
theorem allSize_Snapshot (l : List Snapshot) : allSize 4 (l.map eSnapshot) = true := by simp [allSize, eSnapshot_size]
structure Invocation where
  kind : Int
  home : Int
  max : Int
  visibility : Int
  from_ : Int
  to : Int
  bodies : List (List UInt8)
  tokens : List (List UInt8)
  deriving DecidableEq
def zInvocation : Invocation := ⟨0, 0, 0, 0, 0, 0, [], []⟩
instance : Inhabited Invocation := ⟨zInvocation⟩
def eInvocation (x : Invocation) : D := .agg [.int .i64 x.kind, .int .i64 x.home, .int .i64 x.max, .int .i64 x.visibility, .int .i64 x.from_, .int .i64 x.to, .sl (x.bodies.map .str), .sl (x.tokens.map eBytes)]
theorem eInvocation_cells (x : Invocation) : (eInvocation x).cells = [.int .i64 x.kind, .int .i64 x.home, .int .i64 x.max, .int .i64 x.visibility, .int .i64 x.from_, .int .i64 x.to, .sl (x.bodies.map .str), .sl (x.tokens.map eBytes)] := rfl
theorem eInvocation_size (x : Invocation) : (eInvocation x).size = 8 := rfl
theorem eInvocation_asAgg (x : Invocation) : (eInvocation x).asAgg = eInvocation x := rfl
theorem eInvocation_isT (x : Invocation) : (eInvocation x).isT = false := rfl
theorem allSize_Invocation (l : List Invocation) : allSize 8 (l.map eInvocation) = true := by simp [allSize, eInvocation_size]
structure Result where
  err : Int
  id : Int
  tokens : List (List UInt8)
  bodies : List (List UInt8)
  ready : Int
  leased : Int
  moved : Int
  deriving DecidableEq
def zResult : Result := ⟨0, 0, [], [], 0, 0, 0⟩
instance : Inhabited Result := ⟨zResult⟩
def eResult (x : Result) : D := .agg [.int .i64 x.err, .int .i64 x.id, .sl (x.tokens.map eBytes), .sl (x.bodies.map .str), .int .i64 x.ready, .int .i64 x.leased, .int .i64 x.moved]
theorem eResult_cells (x : Result) : (eResult x).cells = [.int .i64 x.err, .int .i64 x.id, .sl (x.tokens.map eBytes), .sl (x.bodies.map .str), .int .i64 x.ready, .int .i64 x.leased, .int .i64 x.moved] := rfl
theorem eResult_size (x : Result) : (eResult x).size = 7 := rfl
theorem eResult_asAgg (x : Result) : (eResult x).asAgg = eResult x := rfl
theorem eResult_isT (x : Result) : (eResult x).isT = false := rfl
theorem allSize_Result (l : List Result) : allSize 7 (l.map eResult) = true := by simp [allSize, eResult_size]
structure Locker where
  cells : List Int
  phase : Int
  have_ : Int
  tries : Int
  wait : Int
  deriving DecidableEq
def zLocker : Locker := ⟨[], 0, 0, 0, 0⟩
instance : Inhabited Locker := ⟨zLocker⟩
def eLocker (x : Locker) : D := .agg [.sl (ints x.cells), .int .i64 x.phase, .int .i64 x.have_, .int .i64 x.tries, .int .i64 x.wait]
theorem eLocker_cells (x : Locker) : (eLocker x).cells = [.sl (ints x.cells), .int .i64 x.phase, .int .i64 x.have_, .int .i64 x.tries, .int .i64 x.wait] := rfl
theorem eLocker_size (x : Locker) : (eLocker x).size = 5 := rfl
theorem eLocker_asAgg (x : Locker) : (eLocker x).asAgg = eLocker x := rfl
theorem eLocker_isT (x : Locker) : (eLocker x).isT = false := rfl
theorem allSize_Locker (l : List Locker) : allSize 5 (l.map eLocker) = true := by simp [allSize, eLocker_size]
structure Outcome where
  shards : List Shard
  dead : Dead
  order : List Int
  carry : List Message
  edits : List Edit
  deriving DecidableEq
def zOutcome : Outcome := ⟨[], ⟨0, []⟩, [], [], []⟩
instance : Inhabited Outcome := ⟨zOutcome⟩
def eOutcome (x : Outcome) : D := .agg [.sl (x.shards.map eShard), .int .i64 x.dead.cap, .sl (x.dead.l.map eMessage), .sl (ints x.order), .sl (x.carry.map eMessage), .sl (x.edits.map eEdit)]
theorem eOutcome_cells (x : Outcome) : (eOutcome x).cells = [.sl (x.shards.map eShard), .int .i64 x.dead.cap, .sl (x.dead.l.map eMessage), .sl (ints x.order), .sl (x.carry.map eMessage), .sl (x.edits.map eEdit)] := rfl
theorem eOutcome_size (x : Outcome) : (eOutcome x).size = 6 := rfl
theorem eOutcome_asAgg (x : Outcome) : (eOutcome x).asAgg = eOutcome x := rfl
theorem eOutcome_isT (x : Outcome) : (eOutcome x).isT = false := rfl
theorem allSize_Outcome (l : List Outcome) : allSize 6 (l.map eOutcome) = true := by simp [allSize, eOutcome_size]
structure Section where
  phase : Int
  at_ : Int
  lock : Locker
  snap : Snapshot
  shards : List Shard
  dead : Dead
  stripes : List Stripe
  dir : Directory
  out : Outcome
  limit : Int
  carry : List Message
  deriving DecidableEq
def zSection : Section := ⟨0, 0, ⟨[], 0, 0, 0, 0⟩, ⟨0, 0, 0, 0⟩, [], ⟨0, []⟩, [], ⟨0, [], []⟩, ⟨[], ⟨0, []⟩, [], [], []⟩, 0, []⟩
instance : Inhabited Section := ⟨zSection⟩
def eSection (x : Section) : D := .agg [.int .i64 x.phase, .int .i64 x.at_, .sl (ints x.lock.cells), .int .i64 x.lock.phase, .int .i64 x.lock.have_, .int .i64 x.lock.tries, .int .i64 x.lock.wait, .int .i64 x.snap.phase, .int .i64 x.snap.epoch, .int .i64 x.snap.clock, .int .i64 x.snap.stamp, .sl (x.shards.map eShard), .int .i64 x.dead.cap, .sl (x.dead.l.map eMessage), .sl (x.stripes.map eStripe), .int .i64 x.dir.version, .sl (x.dir.l.map eSpan), .sl (ints x.dir.forward), .sl (x.out.shards.map eShard), .int .i64 x.out.dead.cap, .sl (x.out.dead.l.map eMessage), .sl (ints x.out.order), .sl (x.out.carry.map eMessage), .sl (x.out.edits.map eEdit), .int .i64 x.limit, .sl (x.carry.map eMessage)]
theorem eSection_cells (x : Section) : (eSection x).cells = [.int .i64 x.phase, .int .i64 x.at_, .sl (ints x.lock.cells), .int .i64 x.lock.phase, .int .i64 x.lock.have_, .int .i64 x.lock.tries, .int .i64 x.lock.wait, .int .i64 x.snap.phase, .int .i64 x.snap.epoch, .int .i64 x.snap.clock, .int .i64 x.snap.stamp, .sl (x.shards.map eShard), .int .i64 x.dead.cap, .sl (x.dead.l.map eMessage), .sl (x.stripes.map eStripe), .int .i64 x.dir.version, .sl (x.dir.l.map eSpan), .sl (ints x.dir.forward), .sl (x.out.shards.map eShard), .int .i64 x.out.dead.cap, .sl (x.out.dead.l.map eMessage), .sl (ints x.out.order), .sl (x.out.carry.map eMessage), .sl (x.out.edits.map eEdit), .int .i64 x.limit, .sl (x.carry.map eMessage)] := rfl
theorem eSection_size (x : Section) : (eSection x).size = 26 := rfl
theorem eSection_asAgg (x : Section) : (eSection x).asAgg = eSection x := rfl
theorem eSection_isT (x : Section) : (eSection x).isT = false := rfl
theorem allSize_Section (l : List Section) : allSize 26 (l.map eSection) = true := by simp [allSize, eSection_size]
structure Walk where
  next : Int
  covered : Int
  deriving DecidableEq
def zWalk : Walk := ⟨0, 0⟩
instance : Inhabited Walk := ⟨zWalk⟩
def eWalk (x : Walk) : D := .agg [.int .i64 x.next, .int .i64 x.covered]
theorem eWalk_cells (x : Walk) : (eWalk x).cells = [.int .i64 x.next, .int .i64 x.covered] := rfl
theorem eWalk_size (x : Walk) : (eWalk x).size = 2 := rfl
theorem eWalk_asAgg (x : Walk) : (eWalk x).asAgg = eWalk x := rfl
theorem eWalk_isT (x : Walk) : (eWalk x).isT = false := rfl
theorem allSize_Walk (l : List Walk) : allSize 2 (l.map eWalk) = true := by simp [allSize, eWalk_size]
structure Handle where
  id : Int
  gen : Int
  route : Int
  hint : Int
  deriving DecidableEq
def zHandle : Handle := ⟨0, 0, 0, 0⟩
instance : Inhabited Handle := ⟨zHandle⟩
def eHandle (x : Handle) : D := .agg [.int .i64 x.id, .int .i64 x.gen, .int .i64 x.route, .int .i64 x.hint]
theorem eHandle_cells (x : Handle) : (eHandle x).cells = [.int .i64 x.id, .int .i64 x.gen, .int .i64 x.route, .int .i64 x.hint] := rfl
theorem eHandle_size (x : Handle) : (eHandle x).size = 4 := rfl
theorem eHandle_asAgg (x : Handle) : (eHandle x).asAgg = eHandle x := rfl
theorem eHandle_isT (x : Handle) : (eHandle x).isT = false := rfl
theorem allSize_Handle (l : List Handle) : allSize 4 (l.map eHandle) = true := by simp [allSize, eHandle_size]
structure Task where
  number : Int
  inv : Invocation
  invoked : Int
  done : Bool
  ended : Int
  pc : Int
  entry : Int
  results : List Result
  setup : Setup
  sec : Section
  dir : Directory
  walk : Walk
  slot : Int
  id : Int
  handle : Handle
  loaded : Int
  first : List Stripe
  second : List Stripe
  deriving DecidableEq
def zTask : Task := ⟨0, ⟨0, 0, 0, 0, 0, 0, [], []⟩, 0, false, 0, 0, 0, [], ⟨0, 0, 0, 0, 0, 0, 0, 0⟩, ⟨0, 0, ⟨[], 0, 0, 0, 0⟩, ⟨0, 0, 0, 0⟩, [], ⟨0, []⟩, [], ⟨0, [], []⟩, ⟨[], ⟨0, []⟩, [], [], []⟩, 0, []⟩, ⟨0, [], []⟩, ⟨0, 0⟩, 0, 0, ⟨0, 0, 0, 0⟩, 0, [], []⟩
instance : Inhabited Task := ⟨zTask⟩
def eTask (x : Task) : D := .agg [.int .i64 x.number, .int .i64 x.inv.kind, .int .i64 x.inv.home, .int .i64 x.inv.max, .int .i64 x.inv.visibility, .int .i64 x.inv.from_, .int .i64 x.inv.to, .sl (x.inv.bodies.map .str), .sl (x.inv.tokens.map eBytes), .int .i64 x.invoked, .bool x.done, .int .i64 x.ended, .int .i64 x.pc, .int .i64 x.entry, .sl (x.results.map eResult), .int .i64 x.setup.slots, .int .i64 x.setup.live, .int .i64 x.setup.capacity, .int .i64 x.setup.dead, .int .i64 x.setup.limit, .int .i64 x.setup.clock, .int .i64 x.setup.nextID, .int .i64 x.setup.epoch, .int .i64 x.sec.phase, .int .i64 x.sec.at_, .sl (ints x.sec.lock.cells), .int .i64 x.sec.lock.phase, .int .i64 x.sec.lock.have_, .int .i64 x.sec.lock.tries, .int .i64 x.sec.lock.wait, .int .i64 x.sec.snap.phase, .int .i64 x.sec.snap.epoch, .int .i64 x.sec.snap.clock, .int .i64 x.sec.snap.stamp, .sl (x.sec.shards.map eShard), .int .i64 x.sec.dead.cap, .sl (x.sec.dead.l.map eMessage), .sl (x.sec.stripes.map eStripe), .int .i64 x.sec.dir.version, .sl (x.sec.dir.l.map eSpan), .sl (ints x.sec.dir.forward), .sl (x.sec.out.shards.map eShard), .int .i64 x.sec.out.dead.cap, .sl (x.sec.out.dead.l.map eMessage), .sl (ints x.sec.out.order), .sl (x.sec.out.carry.map eMessage), .sl (x.sec.out.edits.map eEdit), .int .i64 x.sec.limit, .sl (x.sec.carry.map eMessage), .int .i64 x.dir.version, .sl (x.dir.l.map eSpan), .sl (ints x.dir.forward), .int .i64 x.walk.next, .int .i64 x.walk.covered, .int .i64 x.slot, .int .i64 x.id, .int .i64 x.handle.id, .int .i64 x.handle.gen, .int .i64 x.handle.route, .int .i64 x.handle.hint, .int .i64 x.loaded, .sl (x.first.map eStripe), .sl (x.second.map eStripe)]
theorem eTask_cells (x : Task) : (eTask x).cells = [.int .i64 x.number, .int .i64 x.inv.kind, .int .i64 x.inv.home, .int .i64 x.inv.max, .int .i64 x.inv.visibility, .int .i64 x.inv.from_, .int .i64 x.inv.to, .sl (x.inv.bodies.map .str), .sl (x.inv.tokens.map eBytes), .int .i64 x.invoked, .bool x.done, .int .i64 x.ended, .int .i64 x.pc, .int .i64 x.entry, .sl (x.results.map eResult), .int .i64 x.setup.slots, .int .i64 x.setup.live, .int .i64 x.setup.capacity, .int .i64 x.setup.dead, .int .i64 x.setup.limit, .int .i64 x.setup.clock, .int .i64 x.setup.nextID, .int .i64 x.setup.epoch, .int .i64 x.sec.phase, .int .i64 x.sec.at_, .sl (ints x.sec.lock.cells), .int .i64 x.sec.lock.phase, .int .i64 x.sec.lock.have_, .int .i64 x.sec.lock.tries, .int .i64 x.sec.lock.wait, .int .i64 x.sec.snap.phase, .int .i64 x.sec.snap.epoch, .int .i64 x.sec.snap.clock, .int .i64 x.sec.snap.stamp, .sl (x.sec.shards.map eShard), .int .i64 x.sec.dead.cap, .sl (x.sec.dead.l.map eMessage), .sl (x.sec.stripes.map eStripe), .int .i64 x.sec.dir.version, .sl (x.sec.dir.l.map eSpan), .sl (ints x.sec.dir.forward), .sl (x.sec.out.shards.map eShard), .int .i64 x.sec.out.dead.cap, .sl (x.sec.out.dead.l.map eMessage), .sl (ints x.sec.out.order), .sl (x.sec.out.carry.map eMessage), .sl (x.sec.out.edits.map eEdit), .int .i64 x.sec.limit, .sl (x.sec.carry.map eMessage), .int .i64 x.dir.version, .sl (x.dir.l.map eSpan), .sl (ints x.dir.forward), .int .i64 x.walk.next, .int .i64 x.walk.covered, .int .i64 x.slot, .int .i64 x.id, .int .i64 x.handle.id, .int .i64 x.handle.gen, .int .i64 x.handle.route, .int .i64 x.handle.hint, .int .i64 x.loaded, .sl (x.first.map eStripe), .sl (x.second.map eStripe)] := rfl
theorem eTask_size (x : Task) : (eTask x).size = 63 := rfl
theorem eTask_asAgg (x : Task) : (eTask x).asAgg = eTask x := rfl
theorem eTask_isT (x : Task) : (eTask x).isT = false := rfl
theorem allSize_Task (l : List Task) : allSize 63 (l.map eTask) = true := by simp [allSize, eTask_size]
structure Item where
  id : Int
  state : Int
  count : Int
  gen : Int
  route : Int
  deadline : Int
  deriving DecidableEq
def zItem : Item := ⟨0, 0, 0, 0, 0, 0⟩
instance : Inhabited Item := ⟨zItem⟩
def eItem (x : Item) : D := .agg [.int .i64 x.id, .int .i64 x.state, .int .i64 x.count, .int .i64 x.gen, .int .i64 x.route, .int .i64 x.deadline]
theorem eItem_cells (x : Item) : (eItem x).cells = [.int .i64 x.id, .int .i64 x.state, .int .i64 x.count, .int .i64 x.gen, .int .i64 x.route, .int .i64 x.deadline] := rfl
theorem eItem_size (x : Item) : (eItem x).size = 6 := rfl
theorem eItem_asAgg (x : Item) : (eItem x).asAgg = eItem x := rfl
theorem eItem_isT (x : Item) : (eItem x).isT = false := rfl
theorem allSize_Item (l : List Item) : allSize 6 (l.map eItem) = true := by simp [allSize, eItem_size]
structure Bag where
  limit : Int
  now : Int
  epoch : Int
  l : List Item
  deriving DecidableEq
def zBag : Bag := ⟨0, 0, 0, []⟩
instance : Inhabited Bag := ⟨zBag⟩
def eBag (x : Bag) : D := .agg [.int .i64 x.limit, .int .i64 x.now, .int .i64 x.epoch, .sl (x.l.map eItem)]
theorem eBag_cells (x : Bag) : (eBag x).cells = [.int .i64 x.limit, .int .i64 x.now, .int .i64 x.epoch, .sl (x.l.map eItem)] := rfl
theorem eBag_size (x : Bag) : (eBag x).size = 4 := rfl
theorem eBag_asAgg (x : Bag) : (eBag x).asAgg = eBag x := rfl
theorem eBag_isT (x : Bag) : (eBag x).isT = false := rfl
theorem allSize_Bag (l : List Bag) : allSize 4 (l.map eBag) = true := by simp [allSize, eBag_size]
structure Grant where
  id : Int
  gen : Int
  route : Int
  deadline : Int
  deriving DecidableEq
def zGrant : Grant := ⟨0, 0, 0, 0⟩
instance : Inhabited Grant := ⟨zGrant⟩
def eGrant (x : Grant) : D := .agg [.int .i64 x.id, .int .i64 x.gen, .int .i64 x.route, .int .i64 x.deadline]
theorem eGrant_cells (x : Grant) : (eGrant x).cells = [.int .i64 x.id, .int .i64 x.gen, .int .i64 x.route, .int .i64 x.deadline] := rfl
theorem eGrant_size (x : Grant) : (eGrant x).size = 4 := rfl
theorem eGrant_asAgg (x : Grant) : (eGrant x).asAgg = eGrant x := rfl
theorem eGrant_isT (x : Grant) : (eGrant x).isT = false := rfl
theorem allSize_Grant (l : List Grant) : allSize 4 (l.map eGrant) = true := by simp [allSize, eGrant_size]
structure Event where
  stamp : Int
  task : Int
  entry : Int
  kind : Int
  now : Int
  epoch : Int
  err : Int
  l : List Grant
  ready : Int
  leased : Int
  deriving DecidableEq
def zEvent : Event := ⟨0, 0, 0, 0, 0, 0, 0, [], 0, 0⟩
instance : Inhabited Event := ⟨zEvent⟩
def eEvent (x : Event) : D := .agg [.int .i64 x.stamp, .int .i64 x.task, .int .i64 x.entry, .int .i64 x.kind, .int .i64 x.now, .int .i64 x.epoch, .int .i64 x.err, .sl (x.l.map eGrant), .int .i64 x.ready, .int .i64 x.leased]
theorem eEvent_cells (x : Event) : (eEvent x).cells = [.int .i64 x.stamp, .int .i64 x.task, .int .i64 x.entry, .int .i64 x.kind, .int .i64 x.now, .int .i64 x.epoch, .int .i64 x.err, .sl (x.l.map eGrant), .int .i64 x.ready, .int .i64 x.leased] := rfl
theorem eEvent_size (x : Event) : (eEvent x).size = 10 := rfl
theorem eEvent_asAgg (x : Event) : (eEvent x).asAgg = eEvent x := rfl
theorem eEvent_isT (x : Event) : (eEvent x).isT = false := rfl
theorem allSize_Event (l : List Event) : allSize 10 (l.map eEvent) = true := by simp [allSize, eEvent_size]
structure World where
  setup : Setup
  arena : Arena
  tasks : List Task
  log : List Event
  steps : Int
  handles : List (List UInt8)
  deriving DecidableEq
def zWorld : World := ⟨⟨0, 0, 0, 0, 0, 0, 0, 0⟩, ⟨[], [], ⟨0, ⟨0, []⟩⟩, ⟨0, [], []⟩, 0, 0, 0⟩, [], [], 0, []⟩
instance : Inhabited World := ⟨zWorld⟩
def eWorld (x : World) : D := .agg [.int .i64 x.setup.slots, .int .i64 x.setup.live, .int .i64 x.setup.capacity, .int .i64 x.setup.dead, .int .i64 x.setup.limit, .int .i64 x.setup.clock, .int .i64 x.setup.nextID, .int .i64 x.setup.epoch, .sl (x.arena.slots.map eSlot), .sl (x.arena.stripes.map eStripe), .int .i64 x.arena.dead.owner, .int .i64 x.arena.dead.dead.cap, .sl (x.arena.dead.dead.l.map eMessage), .int .i64 x.arena.dir.version, .sl (x.arena.dir.l.map eSpan), .sl (ints x.arena.dir.forward), .int .i64 x.arena.epoch, .int .i64 x.arena.clock, .int .i64 x.arena.nextID, .sl (x.tasks.map eTask), .sl (x.log.map eEvent), .int .i64 x.steps, .sl (x.handles.map eBytes)]
theorem eWorld_cells (x : World) : (eWorld x).cells = [.int .i64 x.setup.slots, .int .i64 x.setup.live, .int .i64 x.setup.capacity, .int .i64 x.setup.dead, .int .i64 x.setup.limit, .int .i64 x.setup.clock, .int .i64 x.setup.nextID, .int .i64 x.setup.epoch, .sl (x.arena.slots.map eSlot), .sl (x.arena.stripes.map eStripe), .int .i64 x.arena.dead.owner, .int .i64 x.arena.dead.dead.cap, .sl (x.arena.dead.dead.l.map eMessage), .int .i64 x.arena.dir.version, .sl (x.arena.dir.l.map eSpan), .sl (ints x.arena.dir.forward), .int .i64 x.arena.epoch, .int .i64 x.arena.clock, .int .i64 x.arena.nextID, .sl (x.tasks.map eTask), .sl (x.log.map eEvent), .int .i64 x.steps, .sl (x.handles.map eBytes)] := rfl
theorem eWorld_size (x : World) : (eWorld x).size = 23 := rfl
theorem eWorld_asAgg (x : World) : (eWorld x).asAgg = eWorld x := rfl
theorem eWorld_isT (x : World) : (eWorld x).isT = false := rfl
theorem allSize_World (l : List World) : allSize 23 (l.map eWorld) = true := by simp [allSize, eWorld_size]
structure Ref where
  index : Int
  variant : Int
  raw : List UInt8
  deriving DecidableEq
def zRef : Ref := ⟨0, 0, []⟩
instance : Inhabited Ref := ⟨zRef⟩
def eRef (x : Ref) : D := .agg [.int .i64 x.index, .int .i64 x.variant, .sl (byD x.raw)]
theorem eRef_cells (x : Ref) : (eRef x).cells = [.int .i64 x.index, .int .i64 x.variant, .sl (byD x.raw)] := rfl
theorem eRef_size (x : Ref) : (eRef x).size = 3 := rfl
theorem eRef_asAgg (x : Ref) : (eRef x).asAgg = eRef x := rfl
theorem eRef_isT (x : Ref) : (eRef x).isT = false := rfl
theorem allSize_Ref (l : List Ref) : allSize 3 (l.map eRef) = true := by simp [allSize, eRef_size]
structure Command where
  kind : Int
  pick : Int
  by_ : Int
  inv : Invocation
  refs : List Ref
  deriving DecidableEq
def zCommand : Command := ⟨0, 0, 0, ⟨0, 0, 0, 0, 0, 0, [], []⟩, []⟩
instance : Inhabited Command := ⟨zCommand⟩
def eCommand (x : Command) : D := .agg [.int .i64 x.kind, .int .i64 x.pick, .int .i64 x.by_, .int .i64 x.inv.kind, .int .i64 x.inv.home, .int .i64 x.inv.max, .int .i64 x.inv.visibility, .int .i64 x.inv.from_, .int .i64 x.inv.to, .sl (x.inv.bodies.map .str), .sl (x.inv.tokens.map eBytes), .sl (x.refs.map eRef)]
theorem eCommand_cells (x : Command) : (eCommand x).cells = [.int .i64 x.kind, .int .i64 x.pick, .int .i64 x.by_, .int .i64 x.inv.kind, .int .i64 x.inv.home, .int .i64 x.inv.max, .int .i64 x.inv.visibility, .int .i64 x.inv.from_, .int .i64 x.inv.to, .sl (x.inv.bodies.map .str), .sl (x.inv.tokens.map eBytes), .sl (x.refs.map eRef)] := rfl
theorem eCommand_size (x : Command) : (eCommand x).size = 12 := rfl
theorem eCommand_asAgg (x : Command) : (eCommand x).asAgg = eCommand x := rfl
theorem eCommand_isT (x : Command) : (eCommand x).isT = false := rfl
theorem allSize_Command (l : List Command) : allSize 12 (l.map eCommand) = true := by simp [allSize, eCommand_size]
theorem eqd_D (x y : Due) : (decide (x.1 = y.1) && decide (x.2 = y.2)) = decide (x = y) := by
  cases x; cases y
  apply Bool.eq_iff_iff.2
  simp
theorem eqs_D {H : Heap} {ng : Bool} (x y : Due) : eqsV H ng 2 [(0, 0), (1, 0)] (.d (eD x)) (.d (eD y)) = retB H ng (some (decide (x = y))) := by
  rw [← eqd_D]
  simp only [eqsV, eD, eqCells, eqCell, List.length_cons, List.length_nil, List.getElem?_cons_zero, List.getElem?_cons_succ, Option.bind_some, Option.map_some, if_true, and_self, Nat.zero_add, Nat.reduceAdd, Bool.and_true]
theorem eqd_Message (x y : Message) : (decide (x.id = y.id) && (decide (x.route = y.route) && (decide (x.epoch = y.epoch) && (decide (x.count = y.count) && (decide (x.gen = y.gen) && (decide (x.sent = y.sent) && decide (x.body = y.body))))))) = decide (x = y) := by
  cases x; cases y
  apply Bool.eq_iff_iff.2
  simp
theorem eqs_Message {H : Heap} {ng : Bool} (x y : Message) : eqsV H ng 7 [(0, 0), (1, 0), (2, 0), (3, 0), (4, 0), (5, 0), (6, 2)] (.d (eMessage x)) (.d (eMessage y)) = retB H ng (some (decide (x = y))) := by
  rw [← eqd_Message]
  simp only [eqsV, eMessage, eqCells, eqCell, List.length_cons, List.length_nil, List.getElem?_cons_zero, List.getElem?_cons_succ, Option.bind_some, Option.map_some, if_true, and_self, Nat.zero_add, Nat.reduceAdd, Bool.and_true]
theorem eqd_Stripe (x y : Stripe) : (decide (x.seq = y.seq) && (decide (x.epoch = y.epoch) && (decide (x.ready = y.ready) && decide (x.leased = y.leased)))) = decide (x = y) := by
  cases x; cases y
  apply Bool.eq_iff_iff.2
  simp
theorem eqs_Stripe {H : Heap} {ng : Bool} (x y : Stripe) : eqsV H ng 4 [(0, 0), (1, 0), (2, 0), (3, 0)] (.d (eStripe x)) (.d (eStripe y)) = retB H ng (some (decide (x = y))) := by
  rw [← eqd_Stripe]
  simp only [eqsV, eStripe, eqCells, eqCell, List.length_cons, List.length_nil, List.getElem?_cons_zero, List.getElem?_cons_succ, Option.bind_some, Option.map_some, if_true, and_self, Nat.zero_add, Nat.reduceAdd, Bool.and_true]
theorem eqd_Lease (x y : Lease) : (decide (x.msg.id = y.msg.id) && (decide (x.msg.route = y.msg.route) && (decide (x.msg.epoch = y.msg.epoch) && (decide (x.msg.count = y.msg.count) && (decide (x.msg.gen = y.msg.gen) && (decide (x.msg.sent = y.msg.sent) && (decide (x.msg.body = y.msg.body) && decide (x.deadline = y.deadline)))))))) = decide (x = y) := by
  obtain ⟨⟨x1, x2, x3, x4, x5, x6, x7⟩, x8⟩ := x
  obtain ⟨⟨y1, y2, y3, y4, y5, y6, y7⟩, y8⟩ := y
  apply Bool.eq_iff_iff.2
  simp [and_assoc]
theorem eqs_Lease {H : Heap} {ng : Bool} (x y : Lease) : eqsV H ng 8 [(0, 0), (1, 0), (2, 0), (3, 0), (4, 0), (5, 0), (6, 2), (7, 0)] (.d (eLease x)) (.d (eLease y)) = retB H ng (some (decide (x = y))) := by
  rw [← eqd_Lease]
  simp only [eqsV, eLease, eqCells, eqCell, List.length_cons, List.length_nil, List.getElem?_cons_zero, List.getElem?_cons_succ, Option.bind_some, Option.map_some, if_true, and_self, Nat.zero_add, Nat.reduceAdd, Bool.and_true]
theorem eqd_Span (x y : Span) : (decide (x.low = y.low) && (decide (x.high = y.high) && decide (x.shard = y.shard))) = decide (x = y) := by
  cases x; cases y
  apply Bool.eq_iff_iff.2
  simp
theorem eqs_Span {H : Heap} {ng : Bool} (x y : Span) : eqsV H ng 3 [(0, 0), (1, 0), (2, 0)] (.d (eSpan x)) (.d (eSpan y)) = retB H ng (some (decide (x = y))) := by
  rw [← eqd_Span]
  simp only [eqsV, eSpan, eqCells, eqCell, List.length_cons, List.length_nil, List.getElem?_cons_zero, List.getElem?_cons_succ, Option.bind_some, Option.map_some, if_true, and_self, Nat.zero_add, Nat.reduceAdd, Bool.and_true]
theorem eqd_Setup (x y : Setup) : (decide (x.slots = y.slots) && (decide (x.live = y.live) && (decide (x.capacity = y.capacity) && (decide (x.dead = y.dead) && (decide (x.limit = y.limit) && (decide (x.clock = y.clock) && (decide (x.nextID = y.nextID) && decide (x.epoch = y.epoch)))))))) = decide (x = y) := by
  cases x; cases y
  apply Bool.eq_iff_iff.2
  simp
theorem eqs_Setup {H : Heap} {ng : Bool} (x y : Setup) : eqsV H ng 8 [(0, 0), (1, 0), (2, 0), (3, 0), (4, 0), (5, 0), (6, 0), (7, 0)] (.d (eSetup x)) (.d (eSetup y)) = retB H ng (some (decide (x = y))) := by
  rw [← eqd_Setup]
  simp only [eqsV, eSetup, eqCells, eqCell, List.length_cons, List.length_nil, List.getElem?_cons_zero, List.getElem?_cons_succ, Option.bind_some, Option.map_some, if_true, and_self, Nat.zero_add, Nat.reduceAdd, Bool.and_true]
theorem eqd_Snapshot (x y : Snapshot) : (decide (x.phase = y.phase) && (decide (x.epoch = y.epoch) && (decide (x.clock = y.clock) && decide (x.stamp = y.stamp)))) = decide (x = y) := by
  cases x; cases y
  apply Bool.eq_iff_iff.2
  simp
theorem eqs_Snapshot {H : Heap} {ng : Bool} (x y : Snapshot) : eqsV H ng 4 [(0, 0), (1, 0), (2, 0), (3, 0)] (.d (eSnapshot x)) (.d (eSnapshot y)) = retB H ng (some (decide (x = y))) := by
  rw [← eqd_Snapshot]
  simp only [eqsV, eSnapshot, eqCells, eqCell, List.length_cons, List.length_nil, List.getElem?_cons_zero, List.getElem?_cons_succ, Option.bind_some, Option.map_some, if_true, and_self, Nat.zero_add, Nat.reduceAdd, Bool.and_true]
theorem eqd_Grant (x y : Grant) : (decide (x.id = y.id) && (decide (x.gen = y.gen) && (decide (x.route = y.route) && decide (x.deadline = y.deadline)))) = decide (x = y) := by
  cases x; cases y
  apply Bool.eq_iff_iff.2
  simp
theorem eqs_Grant {H : Heap} {ng : Bool} (x y : Grant) : eqsV H ng 4 [(0, 0), (1, 0), (2, 0), (3, 0)] (.d (eGrant x)) (.d (eGrant y)) = retB H ng (some (decide (x = y))) := by
  rw [← eqd_Grant]
  simp only [eqsV, eGrant, eqCells, eqCell, List.length_cons, List.length_nil, List.getElem?_cons_zero, List.getElem?_cons_succ, Option.bind_some, Option.map_some, if_true, and_self, Nat.zero_add, Nat.reduceAdd, Bool.and_true]
theorem eqd_Item (x y : Item) : (decide (x.id = y.id) && (decide (x.state = y.state) && (decide (x.count = y.count) && (decide (x.gen = y.gen) && (decide (x.route = y.route) && decide (x.deadline = y.deadline)))))) = decide (x = y) := by
  cases x; cases y
  apply Bool.eq_iff_iff.2
  simp
theorem eqs_Item {H : Heap} {ng : Bool} (x y : Item) : eqsV H ng 6 [(0, 0), (1, 0), (2, 0), (3, 0), (4, 0), (5, 0)] (.d (eItem x)) (.d (eItem y)) = retB H ng (some (decide (x = y))) := by
  rw [← eqd_Item]
  simp only [eqsV, eItem, eqCells, eqCell, List.length_cons, List.length_nil, List.getElem?_cons_zero, List.getElem?_cons_succ, Option.bind_some, Option.map_some, if_true, and_self, Nat.zero_add, Nat.reduceAdd, Bool.and_true]
theorem eqd_Edit (x y : Edit) : (decide (x.kind = y.kind) && (decide (x.from_ = y.from_) && (decide (x.to = y.to) && decide (x.mid = y.mid)))) = decide (x = y) := by
  cases x; cases y
  apply Bool.eq_iff_iff.2
  simp
theorem eqs_Edit {H : Heap} {ng : Bool} (x y : Edit) : eqsV H ng 4 [(0, 0), (1, 0), (2, 0), (3, 0)] (.d (eEdit x)) (.d (eEdit y)) = retB H ng (some (decide (x = y))) := by
  rw [← eqd_Edit]
  simp only [eqsV, eEdit, eqCells, eqCell, List.length_cons, List.length_nil, List.getElem?_cons_zero, List.getElem?_cons_succ, Option.bind_some, Option.map_some, if_true, and_self, Nat.zero_add, Nat.reduceAdd, Bool.and_true]
theorem eqd_Handle (x y : Handle) : (decide (x.id = y.id) && (decide (x.gen = y.gen) && (decide (x.route = y.route) && decide (x.hint = y.hint)))) = decide (x = y) := by
  cases x; cases y
  apply Bool.eq_iff_iff.2
  simp
theorem eqs_Handle {H : Heap} {ng : Bool} (x y : Handle) : eqsV H ng 4 [(0, 0), (1, 0), (2, 0), (3, 0)] (.d (eHandle x)) (.d (eHandle y)) = retB H ng (some (decide (x = y))) := by
  rw [← eqd_Handle]
  simp only [eqsV, eHandle, eqCells, eqCell, List.length_cons, List.length_nil, List.getElem?_cons_zero, List.getElem?_cons_succ, Option.bind_some, Option.map_some, if_true, and_self, Nat.zero_add, Nat.reduceAdd, Bool.and_true]
theorem eqd_Walk (x y : Walk) : (decide (x.next = y.next) && decide (x.covered = y.covered)) = decide (x = y) := by
  cases x; cases y
  apply Bool.eq_iff_iff.2
  simp
theorem eqs_Walk {H : Heap} {ng : Bool} (x y : Walk) : eqsV H ng 2 [(0, 0), (1, 0)] (.d (eWalk x)) (.d (eWalk y)) = retB H ng (some (decide (x = y))) := by
  rw [← eqd_Walk]
  simp only [eqsV, eWalk, eqCells, eqCell, List.length_cons, List.length_nil, List.getElem?_cons_zero, List.getElem?_cons_succ, Option.bind_some, Option.map_some, if_true, and_self, Nat.zero_add, Nat.reduceAdd, Bool.and_true]
attribute [go_sem high] eqs_D eqs_Message eqs_Stripe eqs_Lease eqs_Span eqs_Setup eqs_Snapshot eqs_Grant eqs_Item eqs_Edit eqs_Handle eqs_Walk
attribute [go_sem] allSize_ints allSize_bytes allSize_strs eD_cells eD_size eD_asAgg eD_isT allSize_eD eSpan_cells eSpan_size eSpan_asAgg eSpan_isT allSize_Span eDirectory_cells eDirectory_size eDirectory_asAgg eDirectory_isT allSize_Directory eEdit_cells eEdit_size eEdit_asAgg eEdit_isT allSize_Edit eSetup_cells eSetup_size eSetup_asAgg eSetup_isT allSize_Setup eMessage_cells eMessage_size eMessage_asAgg eMessage_isT allSize_Message eRing_cells eRing_size eRing_asAgg eRing_isT allSize_Ring eLease_cells eLease_size eLease_asAgg eLease_isT allSize_Lease eTable_cells eTable_size eTable_asAgg eTable_isT allSize_Table eShard_cells eShard_size eShard_asAgg eShard_isT allSize_Shard eSlot_cells eSlot_size eSlot_asAgg eSlot_isT allSize_Slot eStripe_cells eStripe_size eStripe_asAgg eStripe_isT allSize_Stripe eDead_cells eDead_size eDead_asAgg eDead_isT allSize_Dead eDeadCell_cells eDeadCell_size eDeadCell_asAgg eDeadCell_isT allSize_DeadCell eArena_cells eArena_size eArena_asAgg eArena_isT allSize_Arena eSnapshot_cells eSnapshot_size eSnapshot_asAgg eSnapshot_isT allSize_Snapshot eInvocation_cells eInvocation_size eInvocation_asAgg eInvocation_isT allSize_Invocation eResult_cells eResult_size eResult_asAgg eResult_isT allSize_Result eLocker_cells eLocker_size eLocker_asAgg eLocker_isT allSize_Locker eOutcome_cells eOutcome_size eOutcome_asAgg eOutcome_isT allSize_Outcome eSection_cells eSection_size eSection_asAgg eSection_isT allSize_Section eWalk_cells eWalk_size eWalk_asAgg eWalk_isT allSize_Walk eHandle_cells eHandle_size eHandle_asAgg eHandle_isT allSize_Handle eTask_cells eTask_size eTask_asAgg eTask_isT allSize_Task eItem_cells eItem_size eItem_asAgg eItem_isT allSize_Item eBag_cells eBag_size eBag_asAgg eBag_isT allSize_Bag eGrant_cells eGrant_size eGrant_asAgg eGrant_isT allSize_Grant eEvent_cells eEvent_size eEvent_asAgg eEvent_isT allSize_Event eWorld_cells eWorld_size eWorld_asAgg eWorld_isT allSize_World eRef_cells eRef_size eRef_asAgg eRef_isT allSize_Ref eCommand_cells eCommand_size eCommand_asAgg eCommand_isT allSize_Command
end Go.Proofs.YtjillamaceggeaaGreat

namespace Go.Proofs.YtjillamaceggeaaGreat
open Go Go.Sim
set_option linter.unusedSimpArgs false
set_option linter.unusedVariables false
set_option maxHeartbeats 10000000
set_option maxRecDepth 40000
theorem wrapN {x : Int} (h0 : -4294967296 ≤ x) (h1 : x ≤ 4294967296) : IntKind.i64.wrap x = x := wr (by omega)
abbrev srcO (l : List Int) (a : Nat) : Go.Sim.Obj := .row [.d (.agg [.sl (ints l), .int .i64 a])]
def rawD (l : List Int) (a : Nat) : Int × Nat := if a < l.length then (l.getD a 0, a + 1) else (0, a)
theorem raw_le (l : List Int) (a : Nat) (h : a ≤ l.length) : (rawD l a).2 ≤ l.length := by unfold rawD; split <;> simp <;> omega
def nD (l : List Int) (a : Nat) (n : Int) : Int := if (rawD l a).1.tmod n < 0 then (rawD l a).1.tmod n + n else (rawD l a).1.tmod n
theorem nD_in (l : List Int) (a : Nat) {n : Int} (h : 1 ≤ n) : 0 ≤ nD l a n ∧ nD l a n < n := by
  unfold nD
  have h1 := Int.tmod_lt_of_pos (rawD l a).1 (show 0 < n by omega)
  have h2 := Int.lt_tmod_of_pos (rawD l a).1 (show 0 < n by omega)
  split <;> omega
end Go.Proofs.YtjillamaceggeaaGreat
