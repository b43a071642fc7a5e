/-
  The types of package api, as they lie in memory.
-/
import Derived.Test.YtlphhhmicdjljaaRPG
import Derived.Test.YtlphhhmicdjljaaXO
namespace Go.Proofs.Ytlphhhmicdjljaa
open Go Go.Sim
set_option linter.unusedSimpArgs false
set_option linter.unusedVariables false
set_option maxHeartbeats 10000000

abbrev ints (l : List Int) : List D := l.map (.int .i64)
theorem allSize_ints (l : List Int) : allSize 1 (ints l) = true := by simp [allSize, D.size, D.cells]
def eBytes (b : List UInt8) : D := .sl (byD b)
theorem allSize_bytes (l : List (List UInt8)) : allSize 1 (l.map eBytes) = true := by simp [allSize, D.size, D.cells, eBytes]
theorem allSize_strs (l : List (List UInt8)) : allSize 1 (l.map D.str) = true := by simp [allSize, D.size, D.cells]
abbrev Due := Int × Int
def eD (d : Due) : D := .agg [.int .i64 d.1, .int .i64 d.2]
theorem eD_size (d : Due) : (eD d).size = 2 := rfl
theorem eD_asAgg (d : Due) : (eD d).asAgg = eD d := rfl
theorem eD_isT (d : Due) : (eD d).isT = false := rfl
theorem allSize_eD (h : List Due) : allSize 2 (h.map eD) = true := by simp [allSize, eD_size]
structure Span where
  low : Int
  high : Int
  shard : Int
  deriving DecidableEq
def zSpan : Span := ⟨0, 0, 0⟩
instance : Inhabited Span := ⟨zSpan⟩
def eSpan (x : Span) : D := .agg [.int .i64 x.low, .int .i64 x.high, .int .i64 x.shard]
theorem eSpan_size (x : Span) : (eSpan x).size = 3 := rfl
theorem eSpan_asAgg (x : Span) : (eSpan x).asAgg = eSpan x := rfl
theorem eSpan_isT (x : Span) : (eSpan x).isT = false := rfl
theorem allSize_Span (l : List Span) : allSize 3 (l.map eSpan) = true := by simp [allSize, eSpan_size]
structure Directory where
  version : Int
  l : List Span
  forward : List Int
  deriving DecidableEq
def zDirectory : Directory := ⟨0, [], []⟩
instance : Inhabited Directory := ⟨zDirectory⟩
def eDirectory (x : Directory) : D := .agg [.int .i64 x.version, .sl (x.l.map eSpan), .sl (ints x.forward)]
theorem eDirectory_size (x : Directory) : (eDirectory x).size = 3 := rfl
theorem eDirectory_asAgg (x : Directory) : (eDirectory x).asAgg = eDirectory x := rfl
theorem eDirectory_isT (x : Directory) : (eDirectory x).isT = false := rfl
theorem allSize_Directory (l : List Directory) : allSize 3 (l.map eDirectory) = true := by simp [allSize, eDirectory_size]
structure Edit where
  kind : Int
  from_ : Int
  to : Int
  mid : Int
  deriving DecidableEq
def zEdit : Edit := ⟨0, 0, 0, 0⟩
instance : Inhabited Edit := ⟨zEdit⟩
def eEdit (x : Edit) : D := .agg [.int .i64 x.kind, .int .i64 x.from_, .int .i64 x.to, .int .i64 x.mid]
theorem eEdit_size (x : Edit) : (eEdit x).size = 4 := rfl
theorem eEdit_asAgg (x : Edit) : (eEdit x).asAgg = eEdit x := rfl
theorem eEdit_isT (x : Edit) : (eEdit x).isT = false := rfl
theorem allSize_Edit (l : List Edit) : allSize 4 (l.map eEdit) = true := by simp [allSize, eEdit_size]
structure Setup where
  slots : Int
  live : Int
  capacity : Int
  dead : Int
  limit : Int
  clock : Int
  nextID : Int
  epoch : Int
  deriving DecidableEq
def zSetup : Setup := ⟨0, 0, 0, 0, 0, 0, 0, 0⟩
instance : Inhabited Setup := ⟨zSetup⟩
def eSetup (x : Setup) : D := .agg [.int .i64 x.slots, .int .i64 x.live, .int .i64 x.capacity, .int .i64 x.dead, .int .i64 x.limit, .int .i64 x.clock, .int .i64 x.nextID, .int .i64 x.epoch]
theorem eSetup_size (x : Setup) : (eSetup x).size = 8 := rfl
theorem eSetup_asAgg (x : Setup) : (eSetup x).asAgg = eSetup x := rfl
theorem eSetup_isT (x : Setup) : (eSetup x).isT = false := rfl
theorem allSize_Setup (l : List Setup) : allSize 8 (l.map eSetup) = true := by simp [allSize, eSetup_size]
structure Message where
  id : Int
  route : Int
  epoch : Int
  count : Int
  gen : Int
  sent : Int
  body : List UInt8
  deriving DecidableEq
def zMessage : Message := ⟨0, 0, 0, 0, 0, 0, []⟩
instance : Inhabited Message := ⟨zMessage⟩
def eMessage (x : Message) : D := .agg [.int .i64 x.id, .int .i64 x.route, .int .i64 x.epoch, .int .i64 x.count, .int .i64 x.gen, .int .i64 x.sent, .str x.body]
theorem eMessage_size (x : Message) : (eMessage x).size = 7 := rfl
theorem eMessage_asAgg (x : Message) : (eMessage x).asAgg = eMessage x := rfl
theorem eMessage_isT (x : Message) : (eMessage x).isT = false := rfl
theorem allSize_Message (l : List Message) : allSize 7 (l.map eMessage) = true := by simp [allSize, eMessage_size]
structure Ring where
  cells : List Message
  head : Int
  size : Int
  deriving DecidableEq
def zRing : Ring := ⟨[], 0, 0⟩
instance : Inhabited Ring := ⟨zRing⟩
def eRing (x : Ring) : D := .agg [.sl (x.cells.map eMessage), .int .i64 x.head, .int .i64 x.size]
theorem eRing_size (x : Ring) : (eRing x).size = 3 := rfl
theorem eRing_asAgg (x : Ring) : (eRing x).asAgg = eRing x := rfl
theorem eRing_isT (x : Ring) : (eRing x).isT = false := rfl
theorem allSize_Ring (l : List Ring) : allSize 3 (l.map eRing) = true := by simp [allSize, eRing_size]
structure Lease where
  msg : Message
  deadline : Int
  deriving DecidableEq
def zLease : Lease := ⟨⟨0, 0, 0, 0, 0, 0, []⟩, 0⟩
instance : Inhabited Lease := ⟨zLease⟩
def eLease (x : Lease) : D := .agg [.int .i64 x.msg.id, .int .i64 x.msg.route, .int .i64 x.msg.epoch, .int .i64 x.msg.count, .int .i64 x.msg.gen, .int .i64 x.msg.sent, .str x.msg.body, .int .i64 x.deadline]
theorem eLease_size (x : Lease) : (eLease x).size = 8 := rfl
theorem eLease_asAgg (x : Lease) : (eLease x).asAgg = eLease x := rfl
theorem eLease_isT (x : Lease) : (eLease x).isT = false := rfl
theorem allSize_Lease (l : List Lease) : allSize 8 (l.map eLease) = true := by simp [allSize, eLease_size]
structure Table where
  l : List Lease
  heap : List Due
  deriving DecidableEq
def zTable : Table := ⟨[], []⟩
instance : Inhabited Table := ⟨zTable⟩
def eTable (x : Table) : D := .agg [.sl (x.l.map eLease), .sl (x.heap.map eD)]
theorem eTable_size (x : Table) : (eTable x).size = 2 := rfl
theorem eTable_asAgg (x : Table) : (eTable x).asAgg = eTable x := rfl
theorem eTable_isT (x : Table) : (eTable x).isT = false := rfl
theorem allSize_Table (l : List Table) : allSize 2 (l.map eTable) = true := by simp [allSize, eTable_size]
structure Shard where
  live : Bool
  low : Int
  high : Int
  ready : Ring
  leases : Table
  deriving DecidableEq
def zShard : Shard := ⟨false, 0, 0, ⟨[], 0, 0⟩, ⟨[], []⟩⟩
instance : Inhabited Shard := ⟨zShard⟩
def eShard (x : Shard) : D := .agg [.bool x.live, .int .i64 x.low, .int .i64 x.high, .sl (x.ready.cells.map eMessage), .int .i64 x.ready.head, .int .i64 x.ready.size, .sl (x.leases.l.map eLease), .sl (x.leases.heap.map eD)]
theorem eShard_size (x : Shard) : (eShard x).size = 8 := rfl
theorem eShard_asAgg (x : Shard) : (eShard x).asAgg = eShard x := rfl
theorem eShard_isT (x : Shard) : (eShard x).isT = false := rfl
theorem allSize_Shard (l : List Shard) : allSize 8 (l.map eShard) = true := by simp [allSize, eShard_size]
structure Slot where
  owner : Int
  shard : Shard
  deriving DecidableEq
def zSlot : Slot := ⟨0, ⟨false, 0, 0, ⟨[], 0, 0⟩, ⟨[], []⟩⟩⟩
instance : Inhabited Slot := ⟨zSlot⟩
def eSlot (x : Slot) : D := .agg [.int .i64 x.owner, .bool x.shard.live, .int .i64 x.shard.low, .int .i64 x.shard.high, .sl (x.shard.ready.cells.map eMessage), .int .i64 x.shard.ready.head, .int .i64 x.shard.ready.size, .sl (x.shard.leases.l.map eLease), .sl (x.shard.leases.heap.map eD)]
theorem eSlot_size (x : Slot) : (eSlot x).size = 9 := rfl
theorem eSlot_asAgg (x : Slot) : (eSlot x).asAgg = eSlot x := rfl
theorem eSlot_isT (x : Slot) : (eSlot x).isT = false := rfl
theorem allSize_Slot (l : List Slot) : allSize 9 (l.map eSlot) = true := by simp [allSize, eSlot_size]
structure Stripe where
  seq : Int
  epoch : Int
  ready : Int
  leased : Int
  deriving DecidableEq
def zStripe : Stripe := ⟨0, 0, 0, 0⟩
instance : Inhabited Stripe := ⟨zStripe⟩
def eStripe (x : Stripe) : D := .agg [.int .i64 x.seq, .int .i64 x.epoch, .int .i64 x.ready, .int .i64 x.leased]
theorem eStripe_size (x : Stripe) : (eStripe x).size = 4 := rfl
theorem eStripe_asAgg (x : Stripe) : (eStripe x).asAgg = eStripe x := rfl
theorem eStripe_isT (x : Stripe) : (eStripe x).isT = false := rfl
theorem allSize_Stripe (l : List Stripe) : allSize 4 (l.map eStripe) = true := by simp [allSize, eStripe_size]
structure Dead where
  cap : Int
  l : List Message
  deriving DecidableEq
def zDead : Dead := ⟨0, []⟩
instance : Inhabited Dead := ⟨zDead⟩
def eDead (x : Dead) : D := .agg [.int .i64 x.cap, .sl (x.l.map eMessage)]
theorem eDead_size (x : Dead) : (eDead x).size = 2 := rfl
theorem eDead_asAgg (x : Dead) : (eDead x).asAgg = eDead x := rfl
theorem eDead_isT (x : Dead) : (eDead x).isT = false := rfl
theorem allSize_Dead (l : List Dead) : allSize 2 (l.map eDead) = true := by simp [allSize, eDead_size]
structure DeadCell where
  owner : Int
  dead : Dead
  deriving DecidableEq
def zDeadCell : DeadCell := ⟨0, ⟨0, []⟩⟩
instance : Inhabited DeadCell := ⟨zDeadCell⟩
def eDeadCell (x : DeadCell) : D := .agg [.int .i64 x.owner, .int .i64 x.dead.cap, .sl (x.dead.l.map eMessage)]
theorem eDeadCell_size (x : DeadCell) : (eDeadCell x).size = 3 := rfl
theorem eDeadCell_asAgg (x : DeadCell) : (eDeadCell x).asAgg = eDeadCell x := rfl
theorem eDeadCell_isT (x : DeadCell) : (eDeadCell x).isT = false := rfl
theorem allSize_DeadCell (l : List DeadCell) : allSize 3 (l.map eDeadCell) = true := by simp [allSize, eDeadCell_size]
structure Arena where
  slots : List Slot
  stripes : List Stripe
  dead : DeadCell
  dir : Directory
  epoch : Int
  clock : Int
  nextID : Int
  deriving DecidableEq
def zArena : Arena := ⟨[], [], ⟨0, ⟨0, []⟩⟩, ⟨0, [], []⟩, 0, 0, 0⟩
instance : Inhabited Arena := ⟨zArena⟩
def eArena (x : Arena) : D := .agg [.sl (x.slots.map eSlot), .sl (x.stripes.map eStripe), .int .i64 x.dead.owner, .int .i64 x.dead.dead.cap, .sl (x.dead.dead.l.map eMessage), .int .i64 x.dir.version, .sl (x.dir.l.map eSpan), .sl (ints x.dir.forward), .int .i64 x.epoch, .int .i64 x.clock, .int .i64 x.nextID]
theorem eArena_size (x : Arena) : (eArena x).size = 11 := rfl
theorem eArena_asAgg (x : Arena) : (eArena x).asAgg = eArena x := rfl
theorem eArena_isT (x : Arena) : (eArena x).isT = false := rfl
theorem allSize_Arena (l : List Arena) : allSize 11 (l.map eArena) = true := by simp [allSize, eArena_size]
structure Snapshot where
  phase : Int
  epoch : Int
  clock : Int
  stamp : Int
  deriving DecidableEq
def zSnapshot : Snapshot := ⟨0, 0, 0, 0⟩
instance : Inhabited Snapshot := ⟨zSnapshot⟩
def eSnapshot (x : Snapshot) : D := .agg [.int .i64 x.phase, .int .i64 x.epoch, .int .i64 x.clock, .int .i64 x.stamp]
theorem eSnapshot_size (x : Snapshot) : (eSnapshot x).size = 4 := rfl
theorem eSnapshot_asAgg (x : Snapshot) : (eSnapshot x).asAgg = eSnapshot x := rfl
theorem eSnapshot_isT (x : Snapshot) : (eSnapshot x).isT = false := rfl
theorem allSize_Snapshot (l : List Snapshot) : allSize 4 (l.map eSnapshot) = true := by simp [allSize, eSnapshot_size]
structure Invocation where
  kind : Int
  home : Int
  max : Int
  visibility : Int
  from_ : Int
  to : Int
  bodies : List (List UInt8)
  tokens : List (List UInt8)
  deriving DecidableEq
def zInvocation : Invocation := ⟨0, 0, 0, 0, 0, 0, [], []⟩
instance : Inhabited Invocation := ⟨zInvocation⟩
def eInvocation (x : Invocation) : D := .agg [.int .i64 x.kind, .int .i64 x.home, .int .i64 x.max, .int .i64 x.visibility, .int .i64 x.from_, .int .i64 x.to, .sl (x.bodies.map .str), .sl (x.tokens.map eBytes)]
theorem eInvocation_size (x : Invocation) : (eInvocation x).size = 8 := rfl
theorem eInvocation_asAgg (x : Invocation) : (eInvocation x).asAgg = eInvocation x := rfl
theorem eInvocation_isT (x : Invocation) : (eInvocation x).isT = false := rfl
theorem allSize_Invocation (l : List Invocation) : allSize 8 (l.map eInvocation) = true := by simp [allSize, eInvocation_size]
structure Result where
  err : Int
  id : Int
  tokens : List (List UInt8)
  bodies : List (List UInt8)
  ready : Int
  leased : Int
  moved : Int
  deriving DecidableEq
def zResult : Result := ⟨0, 0, [], [], 0, 0, 0⟩
instance : Inhabited Result := ⟨zResult⟩
def eResult (x : Result) : D := .agg [.int .i64 x.err, .int .i64 x.id, .sl (x.tokens.map eBytes), .sl (x.bodies.map .str), .int .i64 x.ready, .int .i64 x.leased, .int .i64 x.moved]
theorem eResult_size (x : Result) : (eResult x).size = 7 := rfl
theorem eResult_asAgg (x : Result) : (eResult x).asAgg = eResult x := rfl
theorem eResult_isT (x : Result) : (eResult x).isT = false := rfl
theorem allSize_Result (l : List Result) : allSize 7 (l.map eResult) = true := by simp [allSize, eResult_size]
structure Locker where
  cells : List Int
  phase : Int
  have_ : Int
  tries : Int
  wait : Int
  deriving DecidableEq
def zLocker : Locker := ⟨[], 0, 0, 0, 0⟩
instance : Inhabited Locker := ⟨zLocker⟩
def eLocker (x : Locker) : D := .agg [.sl (ints x.cells), .int .i64 x.phase, .int .i64 x.have_, .int .i64 x.tries, .int .i64 x.wait]
theorem eLocker_size (x : Locker) : (eLocker x).size = 5 := rfl
theorem eLocker_asAgg (x : Locker) : (eLocker x).asAgg = eLocker x := rfl
theorem eLocker_isT (x : Locker) : (eLocker x).isT = false := rfl
theorem allSize_Locker (l : List Locker) : allSize 5 (l.map eLocker) = true := by simp [allSize, eLocker_size]
structure Outcome where
  shards : List Shard
  dead : Dead
  order : List Int
  carry : List Message
  edits : List Edit
  deriving DecidableEq
def zOutcome : Outcome := ⟨[], ⟨0, []⟩, [], [], []⟩
instance : Inhabited Outcome := ⟨zOutcome⟩
def eOutcome (x : Outcome) : D := .agg [.sl (x.shards.map eShard), .int .i64 x.dead.cap, .sl (x.dead.l.map eMessage), .sl (ints x.order), .sl (x.carry.map eMessage), .sl (x.edits.map eEdit)]
theorem eOutcome_size (x : Outcome) : (eOutcome x).size = 6 := rfl
theorem eOutcome_asAgg (x : Outcome) : (eOutcome x).asAgg = eOutcome x := rfl
theorem eOutcome_isT (x : Outcome) : (eOutcome x).isT = false := rfl
theorem allSize_Outcome (l : List Outcome) : allSize 6 (l.map eOutcome) = true := by simp [allSize, eOutcome_size]
structure Section where
  phase : Int
  at_ : Int
  lock : Locker
  snap : Snapshot
  shards : List Shard
  dead : Dead
  stripes : List Stripe
  dir : Directory
  out : Outcome
  limit : Int
  carry : List Message
  deriving DecidableEq
def zSection : Section := ⟨0, 0, ⟨[], 0, 0, 0, 0⟩, ⟨0, 0, 0, 0⟩, [], ⟨0, []⟩, [], ⟨0, [], []⟩, ⟨[], ⟨0, []⟩, [], [], []⟩, 0, []⟩
instance : Inhabited Section := ⟨zSection⟩
def eSection (x : Section) : D := .agg [.int .i64 x.phase, .int .i64 x.at_, .sl (ints x.lock.cells), .int .i64 x.lock.phase, .int .i64 x.lock.have_, .int .i64 x.lock.tries, .int .i64 x.lock.wait, .int .i64 x.snap.phase, .int .i64 x.snap.epoch, .int .i64 x.snap.clock, .int .i64 x.snap.stamp, .sl (x.shards.map eShard), .int .i64 x.dead.cap, .sl (x.dead.l.map eMessage), .sl (x.stripes.map eStripe), .int .i64 x.dir.version, .sl (x.dir.l.map eSpan), .sl (ints x.dir.forward), .sl (x.out.shards.map eShard), .int .i64 x.out.dead.cap, .sl (x.out.dead.l.map eMessage), .sl (ints x.out.order), .sl (x.out.carry.map eMessage), .sl (x.out.edits.map eEdit), .int .i64 x.limit, .sl (x.carry.map eMessage)]
theorem eSection_size (x : Section) : (eSection x).size = 26 := rfl
theorem eSection_asAgg (x : Section) : (eSection x).asAgg = eSection x := rfl
theorem eSection_isT (x : Section) : (eSection x).isT = false := rfl
theorem allSize_Section (l : List Section) : allSize 26 (l.map eSection) = true := by simp [allSize, eSection_size]
structure Walk where
  next : Int
  covered : Int
  deriving DecidableEq
def zWalk : Walk := ⟨0, 0⟩
instance : Inhabited Walk := ⟨zWalk⟩
def eWalk (x : Walk) : D := .agg [.int .i64 x.next, .int .i64 x.covered]
theorem eWalk_size (x : Walk) : (eWalk x).size = 2 := rfl
theorem eWalk_asAgg (x : Walk) : (eWalk x).asAgg = eWalk x := rfl
theorem eWalk_isT (x : Walk) : (eWalk x).isT = false := rfl
theorem allSize_Walk (l : List Walk) : allSize 2 (l.map eWalk) = true := by simp [allSize, eWalk_size]
structure Handle where
  id : Int
  gen : Int
  route : Int
  hint : Int
  deriving DecidableEq
def zHandle : Handle := ⟨0, 0, 0, 0⟩
instance : Inhabited Handle := ⟨zHandle⟩
def eHandle (x : Handle) : D := .agg [.int .i64 x.id, .int .i64 x.gen, .int .i64 x.route, .int .i64 x.hint]
theorem eHandle_size (x : Handle) : (eHandle x).size = 4 := rfl
theorem eHandle_asAgg (x : Handle) : (eHandle x).asAgg = eHandle x := rfl
theorem eHandle_isT (x : Handle) : (eHandle x).isT = false := rfl
theorem allSize_Handle (l : List Handle) : allSize 4 (l.map eHandle) = true := by simp [allSize, eHandle_size]
structure Task where
  number : Int
  inv : Invocation
  invoked : Int
  done : Bool
  ended : Int
  pc : Int
  entry : Int
  results : List Result
  setup : Setup
  sec : Section
  dir : Directory
  walk : Walk
  slot : Int
  id : Int
  handle : Handle
  loaded : Int
  first : List Stripe
  second : List Stripe
  deriving DecidableEq
def zTask : Task := ⟨0, ⟨0, 0, 0, 0, 0, 0, [], []⟩, 0, false, 0, 0, 0, [], ⟨0, 0, 0, 0, 0, 0, 0, 0⟩, ⟨0, 0, ⟨[], 0, 0, 0, 0⟩, ⟨0, 0, 0, 0⟩, [], ⟨0, []⟩, [], ⟨0, [], []⟩, ⟨[], ⟨0, []⟩, [], [], []⟩, 0, []⟩, ⟨0, [], []⟩, ⟨0, 0⟩, 0, 0, ⟨0, 0, 0, 0⟩, 0, [], []⟩
instance : Inhabited Task := ⟨zTask⟩
def eTask (x : Task) : D := .agg [.int .i64 x.number, .int .i64 x.inv.kind, .int .i64 x.inv.home, .int .i64 x.inv.max, .int .i64 x.inv.visibility, .int .i64 x.inv.from_, .int .i64 x.inv.to, .sl (x.inv.bodies.map .str), .sl (x.inv.tokens.map eBytes), .int .i64 x.invoked, .bool x.done, .int .i64 x.ended, .int .i64 x.pc, .int .i64 x.entry, .sl (x.results.map eResult), .int .i64 x.setup.slots, .int .i64 x.setup.live, .int .i64 x.setup.capacity, .int .i64 x.setup.dead, .int .i64 x.setup.limit, .int .i64 x.setup.clock, .int .i64 x.setup.nextID, .int .i64 x.setup.epoch, .int .i64 x.sec.phase, .int .i64 x.sec.at_, .sl (ints x.sec.lock.cells), .int .i64 x.sec.lock.phase, .int .i64 x.sec.lock.have_, .int .i64 x.sec.lock.tries, .int .i64 x.sec.lock.wait, .int .i64 x.sec.snap.phase, .int .i64 x.sec.snap.epoch, .int .i64 x.sec.snap.clock, .int .i64 x.sec.snap.stamp, .sl (x.sec.shards.map eShard), .int .i64 x.sec.dead.cap, .sl (x.sec.dead.l.map eMessage), .sl (x.sec.stripes.map eStripe), .int .i64 x.sec.dir.version, .sl (x.sec.dir.l.map eSpan), .sl (ints x.sec.dir.forward), .sl (x.sec.out.shards.map eShard), .int .i64 x.sec.out.dead.cap, .sl (x.sec.out.dead.l.map eMessage), .sl (ints x.sec.out.order), .sl (x.sec.out.carry.map eMessage), .sl (x.sec.out.edits.map eEdit), .int .i64 x.sec.limit, .sl (x.sec.carry.map eMessage), .int .i64 x.dir.version, .sl (x.dir.l.map eSpan), .sl (ints x.dir.forward), .int .i64 x.walk.next, .int .i64 x.walk.covered, .int .i64 x.slot, .int .i64 x.id, .int .i64 x.handle.id, .int .i64 x.handle.gen, .int .i64 x.handle.route, .int .i64 x.handle.hint, .int .i64 x.loaded, .sl (x.first.map eStripe), .sl (x.second.map eStripe)]
theorem eTask_size (x : Task) : (eTask x).size = 63 := rfl
theorem eTask_asAgg (x : Task) : (eTask x).asAgg = eTask x := rfl
theorem eTask_isT (x : Task) : (eTask x).isT = false := rfl
theorem allSize_Task (l : List Task) : allSize 63 (l.map eTask) = true := by simp [allSize, eTask_size]
structure Item where
  id : Int
  state : Int
  count : Int
  gen : Int
  route : Int
  deadline : Int
  deriving DecidableEq
def zItem : Item := ⟨0, 0, 0, 0, 0, 0⟩
instance : Inhabited Item := ⟨zItem⟩
def eItem (x : Item) : D := .agg [.int .i64 x.id, .int .i64 x.state, .int .i64 x.count, .int .i64 x.gen, .int .i64 x.route, .int .i64 x.deadline]
theorem eItem_size (x : Item) : (eItem x).size = 6 := rfl
theorem eItem_asAgg (x : Item) : (eItem x).asAgg = eItem x := rfl
theorem eItem_isT (x : Item) : (eItem x).isT = false := rfl
theorem allSize_Item (l : List Item) : allSize 6 (l.map eItem) = true := by simp [allSize, eItem_size]
structure Bag where
  limit : Int
  now : Int
  epoch : Int
  l : List Item
  deriving DecidableEq
def zBag : Bag := ⟨0, 0, 0, []⟩
instance : Inhabited Bag := ⟨zBag⟩
def eBag (x : Bag) : D := .agg [.int .i64 x.limit, .int .i64 x.now, .int .i64 x.epoch, .sl (x.l.map eItem)]
theorem eBag_size (x : Bag) : (eBag x).size = 4 := rfl
theorem eBag_asAgg (x : Bag) : (eBag x).asAgg = eBag x := rfl
theorem eBag_isT (x : Bag) : (eBag x).isT = false := rfl
theorem allSize_Bag (l : List Bag) : allSize 4 (l.map eBag) = true := by simp [allSize, eBag_size]
structure Grant where
  id : Int
  gen : Int
  route : Int
  deadline : Int
  deriving DecidableEq
def zGrant : Grant := ⟨0, 0, 0, 0⟩
instance : Inhabited Grant := ⟨zGrant⟩
def eGrant (x : Grant) : D := .agg [.int .i64 x.id, .int .i64 x.gen, .int .i64 x.route, .int .i64 x.deadline]
theorem eGrant_size (x : Grant) : (eGrant x).size = 4 := rfl
theorem eGrant_asAgg (x : Grant) : (eGrant x).asAgg = eGrant x := rfl
theorem eGrant_isT (x : Grant) : (eGrant x).isT = false := rfl
theorem allSize_Grant (l : List Grant) : allSize 4 (l.map eGrant) = true := by simp [allSize, eGrant_size]
structure Event where
  stamp : Int
  task : Int
  entry : Int
  kind : Int
  now : Int
  epoch : Int
  err : Int
  l : List Grant
  ready : Int
  leased : Int
  deriving DecidableEq
def zEvent : Event := ⟨0, 0, 0, 0, 0, 0, 0, [], 0, 0⟩
instance : Inhabited Event := ⟨zEvent⟩
def eEvent (x : Event) : D := .agg [.int .i64 x.stamp, .int .i64 x.task, .int .i64 x.entry, .int .i64 x.kind, .int .i64 x.now, .int .i64 x.epoch, .int .i64 x.err, .sl (x.l.map eGrant), .int .i64 x.ready, .int .i64 x.leased]
theorem eEvent_size (x : Event) : (eEvent x).size = 10 := rfl
theorem eEvent_asAgg (x : Event) : (eEvent x).asAgg = eEvent x := rfl
theorem eEvent_isT (x : Event) : (eEvent x).isT = false := rfl
theorem allSize_Event (l : List Event) : allSize 10 (l.map eEvent) = true := by simp [allSize, eEvent_size]
structure World where
  setup : Setup
  arena : Arena
  tasks : List Task
  log : List Event
  steps : Int
  handles : List (List UInt8)
  deriving DecidableEq
def zWorld : World := ⟨⟨0, 0, 0, 0, 0, 0, 0, 0⟩, ⟨[], [], ⟨0, ⟨0, []⟩⟩, ⟨0, [], []⟩, 0, 0, 0⟩, [], [], 0, []⟩
instance : Inhabited World := ⟨zWorld⟩
def eWorld (x : World) : D := .agg [.int .i64 x.setup.slots, .int .i64 x.setup.live, .int .i64 x.setup.capacity, .int .i64 x.setup.dead, .int .i64 x.setup.limit, .int .i64 x.setup.clock, .int .i64 x.setup.nextID, .int .i64 x.setup.epoch, .sl (x.arena.slots.map eSlot), .sl (x.arena.stripes.map eStripe), .int .i64 x.arena.dead.owner, .int .i64 x.arena.dead.dead.cap, .sl (x.arena.dead.dead.l.map eMessage), .int .i64 x.arena.dir.version, .sl (x.arena.dir.l.map eSpan), .sl (ints x.arena.dir.forward), .int .i64 x.arena.epoch, .int .i64 x.arena.clock, .int .i64 x.arena.nextID, .sl (x.tasks.map eTask), .sl (x.log.map eEvent), .int .i64 x.steps, .sl (x.handles.map eBytes)]
theorem eWorld_size (x : World) : (eWorld x).size = 23 := rfl
theorem eWorld_asAgg (x : World) : (eWorld x).asAgg = eWorld x := rfl
theorem eWorld_isT (x : World) : (eWorld x).isT = false := rfl
theorem allSize_World (l : List World) : allSize 23 (l.map eWorld) = true := by simp [allSize, eWorld_size]
structure Ref where
  index : Int
  variant : Int
  raw : List UInt8
  deriving DecidableEq
def zRef : Ref := ⟨0, 0, []⟩
instance : Inhabited Ref := ⟨zRef⟩
def eRef (x : Ref) : D := .agg [.int .i64 x.index, .int .i64 x.variant, .sl (byD x.raw)]
theorem eRef_size (x : Ref) : (eRef x).size = 3 := rfl
theorem eRef_asAgg (x : Ref) : (eRef x).asAgg = eRef x := rfl
theorem eRef_isT (x : Ref) : (eRef x).isT = false := rfl
theorem allSize_Ref (l : List Ref) : allSize 3 (l.map eRef) = true := by simp [allSize, eRef_size]
structure Command where
  kind : Int
  pick : Int
  by_ : Int
  inv : Invocation
  refs : List Ref
  deriving DecidableEq
def zCommand : Command := ⟨0, 0, 0, ⟨0, 0, 0, 0, 0, 0, [], []⟩, []⟩
instance : Inhabited Command := ⟨zCommand⟩
def eCommand (x : Command) : D := .agg [.int .i64 x.kind, .int .i64 x.pick, .int .i64 x.by_, .int .i64 x.inv.kind, .int .i64 x.inv.home, .int .i64 x.inv.max, .int .i64 x.inv.visibility, .int .i64 x.inv.from_, .int .i64 x.inv.to, .sl (x.inv.bodies.map .str), .sl (x.inv.tokens.map eBytes), .sl (x.refs.map eRef)]
theorem eCommand_size (x : Command) : (eCommand x).size = 12 := rfl
theorem eCommand_asAgg (x : Command) : (eCommand x).asAgg = eCommand x := rfl
theorem eCommand_isT (x : Command) : (eCommand x).isT = false := rfl
theorem allSize_Command (l : List Command) : allSize 12 (l.map eCommand) = true := by simp [allSize, eCommand_size]
end Go.Proofs.Ytlphhhmicdjljaa
