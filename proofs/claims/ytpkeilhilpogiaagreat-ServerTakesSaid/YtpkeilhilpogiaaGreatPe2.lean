/-
  Texts of this claim, one behind the other: Types, Opn, Seat, Ident, CircleM, IdentN, T1, Rules6, Rules7, CircleN, RingB, CircL, Rules8, T2, IdxF, CellM, Rules10, Rules9, InsL, T3, T4, T5, T6, Frz, T7.
-/
import Derived.Test.YtpkeilhilpogiaaGreatPe1
import Derived.Test.YtpkeilhilpogiaaGreatRows
import Derived.LaidHandle
import Derived.LaidLaws
import Derived.ChangeVars
import Derived.Stop.Joined
import Derived.Laws.Sem
import Derived.Laws.MakeOwn
import Derived.Scope
import Derived.Lib.AppendZeros
import Derived.Lib.AppendZerosOnto
import Derived.Lib.Overlaps
import Derived.Laws.BytesArg
set_option linter.unusedSimpArgs false
set_option linter.unusedVariables false
set_option linter.unnecessarySimpa false
set_option maxRecDepth 8000
set_option maxHeartbeats 1000000
namespace Go.Esp
structure AnswerV where
  code : Int
  version : Int
  has : Bool
  val : ByteArray
  deriving DecidableEq
def AnswerV.segs : AnswerV → Segs
  | ⟨a1, a2, a3, a4⟩ => [.one (.int .i64 a1), .one (.int .u64 a2), .one (.bool a3), .one (.string a4)]
theorem AnswerV.eta (x : AnswerV) : (⟨x.code, x.version, x.has, x.val⟩ : AnswerV) = x := rfl
def AnswerV.enc (x : AnswerV) : Value := aggV x.segs
def AnswerV.zero : AnswerV := ⟨0, 0, false, ⟨#[]⟩⟩
theorem AnswerV.len (x : AnswerV) : Segs.len x.segs = 4 := by
  obtain ⟨a1, a2, a3, a4⟩ := x
  simp only [AnswerV.segs, Segs.len, Seg.len, idSeg]
theorem AnswerV.flat (x : AnswerV) : Esp.flat x.segs := by
  obtain ⟨a1, a2, a3, a4⟩ := x
  simp only [AnswerV.segs]
  refine Zam rfl ?_; refine Zam rfl ?_; refine Zam rfl ?_; refine Zam rfl ?_
  exact Zbp
theorem AnswerV.inj {x y : AnswerV} : Segs.cells x.segs = Segs.cells y.segs ↔ x = y := by
  obtain ⟨a1, a2, a3, a4⟩ := x
  obtain ⟨b1, b2, b3, b4⟩ := y
  simp only [AnswerV.segs, cells_one, cells_id, Value.int.injEq, Value.bool.injEq, Value.string.injEq, true_and, and_true, and_assoc, AnswerV.mk.injEq]
structure MarkV where
  client : Int
  req : Int
  answer : AnswerV
  deriving DecidableEq
def MarkV.segs : MarkV → Segs
  | ⟨a1, a2, ⟨a3, a4, a5, a6⟩⟩ => [.one (.int .i64 a1), .one (.int .u64 a2), .one (.int .i64 a3), .one (.int .u64 a4), .one (.bool a5), .one (.string a6)]
theorem MarkV.eta (x : MarkV) : (⟨x.client, x.req, x.answer⟩ : MarkV) = x := rfl
def MarkV.enc (x : MarkV) : Value := aggV x.segs
def MarkV.zero : MarkV := ⟨0, 0, ⟨0, 0, false, ⟨#[]⟩⟩⟩
theorem MarkV.len (x : MarkV) : Segs.len x.segs = 6 := by
  obtain ⟨a1, a2, ⟨a3, a4, a5, a6⟩⟩ := x
  simp only [MarkV.segs, Segs.len, Seg.len, idSeg]
theorem MarkV.flat (x : MarkV) : Esp.flat x.segs := by
  obtain ⟨a1, a2, ⟨a3, a4, a5, a6⟩⟩ := x
  simp only [MarkV.segs]
  refine Zam rfl ?_; refine Zam rfl ?_; refine Zam rfl ?_; refine Zam rfl ?_; refine Zam rfl ?_; refine Zam rfl ?_
  exact Zbp
theorem MarkV.inj {x y : MarkV} : Segs.cells x.segs = Segs.cells y.segs ↔ x = y := by
  obtain ⟨a1, a2, ⟨a3, a4, a5, a6⟩⟩ := x
  obtain ⟨b1, b2, ⟨b3, b4, b5, b6⟩⟩ := y
  simp only [MarkV.segs, cells_one, cells_id, Value.int.injEq, Value.bool.injEq, Value.string.injEq, true_and, and_true, and_assoc, MarkV.mk.injEq, AnswerV.mk.injEq]
structure CellV where
  version : Int
  has : Bool
  val : ByteArray
  marks : (Sl MarkV)
def CellV.segs : CellV → Segs
  | ⟨a1, a2, a3, a4⟩ => [.one (.int .u64 a1), .one (.bool a2), .one (.string a3), .one (a4).val]
theorem CellV.eta (x : CellV) : (⟨x.version, x.has, x.val, x.marks⟩ : CellV) = x := rfl
def CellV.enc (x : CellV) : Value := aggV x.segs
def CellV.zero : CellV := ⟨0, false, ⟨#[]⟩, ⟨none, 0, []⟩⟩
theorem CellV.len (x : CellV) : Segs.len x.segs = 4 := by
  obtain ⟨a1, a2, a3, a4⟩ := x
  simp only [CellV.segs, Segs.len, Seg.len, idSeg]
theorem CellV.flat (x : CellV) : Esp.flat x.segs := by
  obtain ⟨a1, a2, a3, a4⟩ := x
  simp only [CellV.segs]
  refine Zam rfl ?_; refine Zam rfl ?_; refine Zam rfl ?_; refine Zam (Sl.one _) ?_
  exact Zbp
structure CellV.ok (M : Mem) (x : CellV) : Prop where
  h0 : SlK M MarkV.segs 6 x.marks
theorem CellV.ok.mono {M M' : Mem} {x : CellV} (h : CellV.ok M x) (hm : M.le M') : CellV.ok M' x := ⟨h.h0.mono hm⟩
theorem CellV.zero_ok (M : Mem) : CellV.ok M CellV.zero := ⟨SlK.nil⟩
structure HeldV where
  key : Plc
  cell : CellV
def HeldV.segs : HeldV → Segs
  | ⟨a1, ⟨a2, a3, a4, a5⟩⟩ => [idSeg a1, .one (.int .u64 a2), .one (.bool a3), .one (.string a4), .one (a5).val]
theorem HeldV.eta (x : HeldV) : (⟨x.key, x.cell⟩ : HeldV) = x := rfl
def HeldV.enc (x : HeldV) : Value := aggV x.segs
def HeldV.zero : HeldV := ⟨0, ⟨0, false, ⟨#[]⟩, ⟨none, 0, []⟩⟩⟩
theorem HeldV.len (x : HeldV) : Segs.len x.segs = 24 := by
  obtain ⟨a1, ⟨a2, a3, a4, a5⟩⟩ := x
  simp only [HeldV.segs, Segs.len, Seg.len, idSeg]
theorem HeldV.flat (x : HeldV) : Esp.flat x.segs := by
  obtain ⟨a1, ⟨a2, a3, a4, a5⟩⟩ := x
  simp only [HeldV.segs]
  refine Zcb ?_; refine Zam rfl ?_; refine Zam rfl ?_; refine Zam rfl ?_; refine Zam (Sl.one _) ?_
  exact Zbp
structure HeldV.ok (M : Mem) (x : HeldV) : Prop where
  h0 : CellV.ok M x.cell
theorem HeldV.ok.mono {M M' : Mem} {x : HeldV} (h : HeldV.ok M x) (hm : M.le M') : HeldV.ok M' x := ⟨h.h0.mono hm⟩
theorem HeldV.zero_ok (M : Mem) : HeldV.ok M HeldV.zero := ⟨CellV.zero_ok M⟩
structure WaitV where
  key : Plc
  client : Int
  req : Int
  answer : AnswerV
  serial : Int
  need : (Sl Int)
def WaitV.segs : WaitV → Segs
  | ⟨a1, a2, a3, ⟨a4, a5, a6, a7⟩, a8, a9⟩ => [idSeg a1, .one (.int .i64 a2), .one (.int .u64 a3), .one (.int .i64 a4), .one (.int .u64 a5), .one (.bool a6), .one (.string a7), .one (.int .u64 a8), .one (a9).val]
theorem WaitV.eta (x : WaitV) : (⟨x.key, x.client, x.req, x.answer, x.serial, x.need⟩ : WaitV) = x := rfl
def WaitV.enc (x : WaitV) : Value := aggV x.segs
def WaitV.zero : WaitV := ⟨0, 0, 0, ⟨0, 0, false, ⟨#[]⟩⟩, 0, ⟨none, 0, []⟩⟩
theorem WaitV.len (x : WaitV) : Segs.len x.segs = 28 := by
  obtain ⟨a1, a2, a3, ⟨a4, a5, a6, a7⟩, a8, a9⟩ := x
  simp only [WaitV.segs, Segs.len, Seg.len, idSeg]
theorem WaitV.flat (x : WaitV) : Esp.flat x.segs := by
  obtain ⟨a1, a2, a3, ⟨a4, a5, a6, a7⟩, a8, a9⟩ := x
  simp only [WaitV.segs]
  refine Zcb ?_; refine Zam rfl ?_; refine Zam rfl ?_; refine Zam rfl ?_; refine Zam rfl ?_; refine Zam rfl ?_; refine Zam rfl ?_; refine Zam rfl ?_; refine Zam (Sl.one _) ?_
  exact Zbp
structure WaitV.ok (M : Mem) (x : WaitV) : Prop where
  h0 : SlK M (oneI .i64) 1 x.need
theorem WaitV.ok.mono {M M' : Mem} {x : WaitV} (h : WaitV.ok M x) (hm : M.le M') : WaitV.ok M' x := ⟨h.h0.mono hm⟩
theorem WaitV.zero_ok (M : Mem) : WaitV.ok M WaitV.zero := ⟨SlK.nil⟩
structure ServerV where
  addr : Int
  epoch : Int
  store : (Sl HeldV)
  waits : (Sl WaitV)
  serial : Int
def ServerV.segs : ServerV → Segs
  | ⟨a1, a2, a3, a4, a5⟩ => [.one (.int .i64 a1), .one (.int .u64 a2), .one (a3).val, .one (a4).val, .one (.int .u64 a5)]
theorem ServerV.eta (x : ServerV) : (⟨x.addr, x.epoch, x.store, x.waits, x.serial⟩ : ServerV) = x := rfl
def ServerV.enc (x : ServerV) : Value := aggV x.segs
def ServerV.zero : ServerV := ⟨0, 0, ⟨none, 0, []⟩, ⟨none, 0, []⟩, 0⟩
theorem ServerV.len (x : ServerV) : Segs.len x.segs = 5 := by
  obtain ⟨a1, a2, a3, a4, a5⟩ := x
  simp only [ServerV.segs, Segs.len, Seg.len, idSeg]
theorem ServerV.flat (x : ServerV) : Esp.flat x.segs := by
  obtain ⟨a1, a2, a3, a4, a5⟩ := x
  simp only [ServerV.segs]
  refine Zam rfl ?_; refine Zam rfl ?_; refine Zam (Sl.one _) ?_; refine Zam (Sl.one _) ?_; refine Zam rfl ?_
  exact Zbp
structure ServerV.ok (M : Mem) (x : ServerV) : Prop where
  h0 : SlK M HeldV.segs 24 x.store
  h1 : ∀ y ∈ (x.store).l, HeldV.ok M y
  h2 : SlK M WaitV.segs 28 x.waits
  h3 : ∀ y ∈ (x.waits).l, WaitV.ok M y
theorem ServerV.ok.mono {M M' : Mem} {x : ServerV} (h : ServerV.ok M x) (hm : M.le M') : ServerV.ok M' x := ⟨h.h0.mono hm, fun y hy => (h.h1 y hy).mono hm, h.h2.mono hm, fun y hy => (h.h3 y hy).mono hm⟩
theorem ServerV.zero_ok (M : Mem) : ServerV.ok M ServerV.zero := ⟨SlK.nil, fun y hy => (by cases hy), SlK.nil, fun y hy => (by cases hy)⟩
structure PeerV where
  addr : Int
  id : Plc
  deriving DecidableEq
def PeerV.segs : PeerV → Segs
  | ⟨a1, a2⟩ => [.one (.int .i64 a1), idSeg a2]
theorem PeerV.eta (x : PeerV) : (⟨x.addr, x.id⟩ : PeerV) = x := rfl
def PeerV.enc (x : PeerV) : Value := aggV x.segs
def PeerV.zero : PeerV := ⟨0, 0⟩
theorem PeerV.len (x : PeerV) : Segs.len x.segs = 21 := by
  obtain ⟨a1, a2⟩ := x
  simp only [PeerV.segs, Segs.len, Seg.len, idSeg]
theorem PeerV.flat (x : PeerV) : Esp.flat x.segs := by
  obtain ⟨a1, a2⟩ := x
  simp only [PeerV.segs]
  refine Zam rfl ?_; refine Zcb ?_
  exact Zbp
theorem PeerV.inj {x y : PeerV} : Segs.cells x.segs = Segs.cells y.segs ↔ x = y := by
  obtain ⟨a1, a2⟩ := x
  obtain ⟨b1, b2⟩ := y
  simp only [PeerV.segs, cells_one, cells_id, Value.int.injEq, Value.bool.injEq, Value.string.injEq, true_and, and_true, and_assoc, PeerV.mk.injEq]
structure OpV where
  client : Int
  req : Int
  kind : Int
  version : Int
  val : ByteArray
  deriving DecidableEq
def OpV.segs : OpV → Segs
  | ⟨a1, a2, a3, a4, a5⟩ => [.one (.int .i64 a1), .one (.int .u64 a2), .one (.int .i64 a3), .one (.int .u64 a4), .one (.string a5)]
theorem OpV.eta (x : OpV) : (⟨x.client, x.req, x.kind, x.version, x.val⟩ : OpV) = x := rfl
def OpV.enc (x : OpV) : Value := aggV x.segs
def OpV.zero : OpV := ⟨0, 0, 0, 0, ⟨#[]⟩⟩
theorem OpV.len (x : OpV) : Segs.len x.segs = 5 := by
  obtain ⟨a1, a2, a3, a4, a5⟩ := x
  simp only [OpV.segs, Segs.len, Seg.len, idSeg]
theorem OpV.flat (x : OpV) : Esp.flat x.segs := by
  obtain ⟨a1, a2, a3, a4, a5⟩ := x
  simp only [OpV.segs]
  refine Zam rfl ?_; refine Zam rfl ?_; refine Zam rfl ?_; refine Zam rfl ?_; refine Zam rfl ?_
  exact Zbp
theorem OpV.inj {x y : OpV} : Segs.cells x.segs = Segs.cells y.segs ↔ x = y := by
  obtain ⟨a1, a2, a3, a4, a5⟩ := x
  obtain ⟨b1, b2, b3, b4, b5⟩ := y
  simp only [OpV.segs, cells_one, cells_id, Value.int.injEq, Value.bool.injEq, Value.string.injEq, true_and, and_true, and_assoc, OpV.mk.injEq]
structure ParcelV where
  kind : Int
  epoch : Int
  key : Plc
  op : OpV
  answer : AnswerV
  serial : Int
  cell : CellV
def ParcelV.segs : ParcelV → Segs
  | ⟨a1, a2, a3, ⟨a4, a5, a6, a7, a8⟩, ⟨a9, a10, a11, a12⟩, a13, ⟨a14, a15, a16, a17⟩⟩ => [.one (.int .i64 a1), .one (.int .u64 a2), idSeg a3, .one (.int .i64 a4), .one (.int .u64 a5), .one (.int .i64 a6), .one (.int .u64 a7), .one (.string a8), .one (.int .i64 a9), .one (.int .u64 a10), .one (.bool a11), .one (.string a12), .one (.int .u64 a13), .one (.int .u64 a14), .one (.bool a15), .one (.string a16), .one (a17).val]
theorem ParcelV.eta (x : ParcelV) : (⟨x.kind, x.epoch, x.key, x.op, x.answer, x.serial, x.cell⟩ : ParcelV) = x := rfl
def ParcelV.enc (x : ParcelV) : Value := aggV x.segs
def ParcelV.zero : ParcelV := ⟨0, 0, 0, ⟨0, 0, 0, 0, ⟨#[]⟩⟩, ⟨0, 0, false, ⟨#[]⟩⟩, 0, ⟨0, false, ⟨#[]⟩, ⟨none, 0, []⟩⟩⟩
theorem ParcelV.len (x : ParcelV) : Segs.len x.segs = 36 := by
  obtain ⟨a1, a2, a3, ⟨a4, a5, a6, a7, a8⟩, ⟨a9, a10, a11, a12⟩, a13, ⟨a14, a15, a16, a17⟩⟩ := x
  simp only [ParcelV.segs, Segs.len, Seg.len, idSeg]
theorem ParcelV.flat (x : ParcelV) : Esp.flat x.segs := by
  obtain ⟨a1, a2, a3, ⟨a4, a5, a6, a7, a8⟩, ⟨a9, a10, a11, a12⟩, a13, ⟨a14, a15, a16, a17⟩⟩ := x
  simp only [ParcelV.segs]
  refine Zam rfl ?_; refine Zam rfl ?_; refine Zcb ?_; refine Zam rfl ?_; refine Zam rfl ?_; refine Zam rfl ?_; refine Zam rfl ?_; refine Zam rfl ?_; refine Zam rfl ?_; refine Zam rfl ?_; refine Zam rfl ?_; refine Zam rfl ?_; refine Zam rfl ?_; refine Zam rfl ?_; refine Zam rfl ?_; refine Zam rfl ?_; refine Zam (Sl.one _) ?_
  exact Zbp
structure ParcelV.ok (M : Mem) (x : ParcelV) : Prop where
  h0 : CellV.ok M x.cell
theorem ParcelV.ok.mono {M M' : Mem} {x : ParcelV} (h : ParcelV.ok M x) (hm : M.le M') : ParcelV.ok M' x := ⟨h.h0.mono hm⟩
theorem ParcelV.zero_ok (M : Mem) : ParcelV.ok M ParcelV.zero := ⟨CellV.zero_ok M⟩
structure PostV where
  to : Int
  parcel : ParcelV
def PostV.segs : PostV → Segs
  | ⟨a1, ⟨a2, a3, a4, ⟨a5, a6, a7, a8, a9⟩, ⟨a10, a11, a12, a13⟩, a14, ⟨a15, a16, a17, a18⟩⟩⟩ => [.one (.int .i64 a1), .one (.int .i64 a2), .one (.int .u64 a3), idSeg a4, .one (.int .i64 a5), .one (.int .u64 a6), .one (.int .i64 a7), .one (.int .u64 a8), .one (.string a9), .one (.int .i64 a10), .one (.int .u64 a11), .one (.bool a12), .one (.string a13), .one (.int .u64 a14), .one (.int .u64 a15), .one (.bool a16), .one (.string a17), .one (a18).val]
theorem PostV.eta (x : PostV) : (⟨x.to, x.parcel⟩ : PostV) = x := rfl
def PostV.enc (x : PostV) : Value := aggV x.segs
def PostV.zero : PostV := ⟨0, ⟨0, 0, 0, ⟨0, 0, 0, 0, ⟨#[]⟩⟩, ⟨0, 0, false, ⟨#[]⟩⟩, 0, ⟨0, false, ⟨#[]⟩, ⟨none, 0, []⟩⟩⟩⟩
theorem PostV.len (x : PostV) : Segs.len x.segs = 37 := by
  obtain ⟨a1, ⟨a2, a3, a4, ⟨a5, a6, a7, a8, a9⟩, ⟨a10, a11, a12, a13⟩, a14, ⟨a15, a16, a17, a18⟩⟩⟩ := x
  simp only [PostV.segs, Segs.len, Seg.len, idSeg]
theorem PostV.flat (x : PostV) : Esp.flat x.segs := by
  obtain ⟨a1, ⟨a2, a3, a4, ⟨a5, a6, a7, a8, a9⟩, ⟨a10, a11, a12, a13⟩, a14, ⟨a15, a16, a17, a18⟩⟩⟩ := x
  simp only [PostV.segs]
  refine Zam rfl ?_; refine Zam rfl ?_; refine Zam rfl ?_; refine Zcb ?_; refine Zam rfl ?_; refine Zam rfl ?_; refine Zam rfl ?_; refine Zam rfl ?_; refine Zam rfl ?_; refine Zam rfl ?_; refine Zam rfl ?_; refine Zam rfl ?_; refine Zam rfl ?_; refine Zam rfl ?_; refine Zam rfl ?_; refine Zam rfl ?_; refine Zam rfl ?_; refine Zam (Sl.one _) ?_
  exact Zbp
structure PostV.ok (M : Mem) (x : PostV) : Prop where
  h0 : ParcelV.ok M x.parcel
theorem PostV.ok.mono {M M' : Mem} {x : PostV} (h : PostV.ok M x) (hm : M.le M') : PostV.ok M' x := ⟨h.h0.mono hm⟩
theorem PostV.zero_ok (M : Mem) : PostV.ok M PostV.zero := ⟨ParcelV.zero_ok M⟩
structure WorkerV where
  s : ServerV
  l : (Sl PeerV)
  r : Int
  out : (Sl PostV)
def WorkerV.segs : WorkerV → Segs
  | ⟨⟨a1, a2, a3, a4, a5⟩, a6, a7, a8⟩ => [.one (.int .i64 a1), .one (.int .u64 a2), .one (a3).val, .one (a4).val, .one (.int .u64 a5), .one (a6).val, .one (.int .i64 a7), .one (a8).val]
theorem WorkerV.eta (x : WorkerV) : (⟨x.s, x.l, x.r, x.out⟩ : WorkerV) = x := rfl
def WorkerV.enc (x : WorkerV) : Value := aggV x.segs
def WorkerV.zero : WorkerV := ⟨⟨0, 0, ⟨none, 0, []⟩, ⟨none, 0, []⟩, 0⟩, ⟨none, 0, []⟩, 0, ⟨none, 0, []⟩⟩
theorem WorkerV.len (x : WorkerV) : Segs.len x.segs = 8 := by
  obtain ⟨⟨a1, a2, a3, a4, a5⟩, a6, a7, a8⟩ := x
  simp only [WorkerV.segs, Segs.len, Seg.len, idSeg]
theorem WorkerV.flat (x : WorkerV) : Esp.flat x.segs := by
  obtain ⟨⟨a1, a2, a3, a4, a5⟩, a6, a7, a8⟩ := x
  simp only [WorkerV.segs]
  refine Zam rfl ?_; refine Zam rfl ?_; refine Zam (Sl.one _) ?_; refine Zam (Sl.one _) ?_; refine Zam rfl ?_; refine Zam (Sl.one _) ?_; refine Zam rfl ?_; refine Zam (Sl.one _) ?_
  exact Zbp
structure WorkerV.ok (M : Mem) (x : WorkerV) : Prop where
  h0 : ServerV.ok M x.s
  h1 : SlK M PeerV.segs 21 x.l
  h2 : SlK M PostV.segs 37 x.out
  h3 : ∀ y ∈ (x.out).l, PostV.ok M y
theorem WorkerV.ok.mono {M M' : Mem} {x : WorkerV} (h : WorkerV.ok M x) (hm : M.le M') : WorkerV.ok M' x := ⟨h.h0.mono hm, h.h1.mono hm, h.h2.mono hm, fun y hy => (h.h3 y hy).mono hm⟩
theorem WorkerV.zero_ok (M : Mem) : WorkerV.ok M WorkerV.zero := ⟨ServerV.zero_ok M, SlK.nil, SlK.nil, fun y hy => (by cases hy)⟩
theorem FitAnswerV (x : AnswerV) : Fits [.i .i64, .i .u64, .b, .s] (Segs.cells x.segs) := by
  obtain ⟨a1, a2, a3, a4⟩ := x
  simp only [AnswerV.segs]
  refine Zgc (by first | exact rfl | exact trivial) ?_; refine Zgc (by first | exact rfl | exact trivial) ?_; refine Zgc (by first | exact rfl | exact trivial) ?_; refine Zgc (by first | exact rfl | exact trivial) ?_
  exact Zez
theorem FitMarkV (x : MarkV) : Fits [.i .i64, .i .u64, .i .i64, .i .u64, .b, .s] (Segs.cells x.segs) := by
  obtain ⟨a1, a2, ⟨a3, a4, a5, a6⟩⟩ := x
  simp only [MarkV.segs]
  refine Zgc (by first | exact rfl | exact trivial) ?_; refine Zgc (by first | exact rfl | exact trivial) ?_; refine Zgc (by first | exact rfl | exact trivial) ?_; refine Zgc (by first | exact rfl | exact trivial) ?_; refine Zgc (by first | exact rfl | exact trivial) ?_; refine Zgc (by first | exact rfl | exact trivial) ?_
  exact Zez
theorem FitOpV (x : OpV) : Fits [.i .i64, .i .u64, .i .i64, .i .u64, .s] (Segs.cells x.segs) := by
  obtain ⟨a1, a2, a3, a4, a5⟩ := x
  simp only [OpV.segs]
  refine Zgc (by first | exact rfl | exact trivial) ?_; refine Zgc (by first | exact rfl | exact trivial) ?_; refine Zgc (by first | exact rfl | exact trivial) ?_; refine Zgc (by first | exact rfl | exact trivial) ?_; refine Zgc (by first | exact rfl | exact trivial) ?_
  exact Zez
theorem St.c {M : Mem} {H H' : Hp} {w : World} (h : St M H w) (hc : ∀ zz, Esp.cnt zz H' ≤ Esp.cnt zz H := by intro zz; first | exact Nat.le_refl _ | (simp only [cnt_app, cnt_cons, cnt_nil, cat, List.append_eq, List.append_assoc, List.cons_append, List.nil_append, List.append_nil]; omega) | (simp only [cnt_app, cnt_cons, cnt_nil, cat, List.append_eq, List.append_assoc, List.cons_append, List.nil_append, List.append_nil, AnswerV.segs, MarkV.segs, CellV.segs, HeldV.segs, WaitV.segs, ServerV.segs, PeerV.segs, OpV.segs, ParcelV.segs, PostV.segs, WorkerV.segs]; omega)) : St M H' w := h.cnt hc
end Go.Esp
namespace Go.Proofs.YtpkeilhilpogiaaGreat
open Go.Esp
theorem Tryz.own : ownKnob Tryz.prog.godebug = none := by kernel_rfl
theorem Tryz.laidOut : laidOutB Tryz.prog = true := by kernel_rfl
theorem AnswerV_of_ty {M : Mem} {n : Nat} {R : Segs} (h : Ty Tryz.prog M n 34 R) : ∃ x : AnswerV, R = x.segs := by
  obtain ⟨k, Rs, rfl, hlen, hf⟩ := ty_struct Tryz.underlying34 h
  match Rs, hlen with
  | [r0, r1, r2, r3], _ =>
    obtain ⟨x0, rfl, _⟩ := Zgd Tryz.underlying32 (hf 0 _ r0 rfl rfl)
    obtain ⟨x1, rfl, _⟩ := Zgd Tryz.underlying22 (hf 1 _ r1 rfl rfl)
    obtain ⟨x2, rfl⟩ := ty_bool Tryz.underlying4 (hf 2 _ r2 rfl rfl)
    obtain ⟨x3, rfl, _⟩ := ty_str Tryz.underlying9 (hf 3 _ r3 rfl rfl)
    exact ⟨⟨x0, x1, x2, x3⟩, rfl⟩
theorem MarkV_of_ty {M : Mem} {n : Nat} {R : Segs} (h : Ty Tryz.prog M n 92 R) : ∃ x : MarkV, R = x.segs := by
  obtain ⟨k, Rs, rfl, hlen, hf⟩ := ty_struct Tryz.underlying92 h
  match Rs, hlen with
  | [r0, r1, r2], _ =>
    obtain ⟨x0, rfl, _⟩ := Zgd Tryz.underlying3 (hf 0 _ r0 rfl rfl)
    obtain ⟨x1, rfl, _⟩ := Zgd Tryz.underlying22 (hf 1 _ r1 rfl rfl)
    obtain ⟨x2, rfl⟩ := AnswerV_of_ty (hf 2 _ r2 rfl rfl)
    exact ⟨⟨x0, x1, x2⟩, rfl⟩
theorem sl_of_ty35 {M : Mem} {n : Nat} {R : Segs} (h : Ty Tryz.prog M n 35 R) : ∃ x : (Sl MarkV), R = [.one x.val] ∧ SlK M MarkV.segs 6 x := by
  have e : Tryz.prog.cellsOf 92 = 6 := by kernel_rfl
  obtain ⟨ad, rows, c, m, rfl, h2, h3, h5, h4⟩ := ty_sliceC Tryz.underlying35 (by rw [e]; decide) h
  obtain ⟨l, rfl, hl⟩ := rows_mapP (f := MarkV.segs) (p := fun y => True) (fun r hr => by
      obtain ⟨z9, h9⟩ := MarkV_of_ty (h4 r hr)
      exact ⟨z9, h9, trivial⟩)
  rw [e] at h2
  exact ⟨⟨ad, c, l⟩, by simp [Sl.val], ⟨h2, by simpa using h3, by simpa using h5⟩⟩
theorem CellV_of_ty {M : Mem} {n : Nat} {R : Segs} (h : Ty Tryz.prog M n 37 R) : ∃ x : CellV, R = x.segs ∧ CellV.ok M x := by
  obtain ⟨k, Rs, rfl, hlen, hf⟩ := ty_struct Tryz.underlying37 h
  match Rs, hlen with
  | [r0, r1, r2, r3], _ =>
    obtain ⟨x0, rfl, _⟩ := Zgd Tryz.underlying22 (hf 0 _ r0 rfl rfl)
    obtain ⟨x1, rfl⟩ := ty_bool Tryz.underlying4 (hf 1 _ r1 rfl rfl)
    obtain ⟨x2, rfl, _⟩ := ty_str Tryz.underlying9 (hf 2 _ r2 rfl rfl)
    obtain ⟨x3, rfl, kx3⟩ := sl_of_ty35 (hf 3 _ r3 rfl rfl)
    exact ⟨⟨x0, x1, x2, x3⟩, rfl, ⟨kx3⟩⟩
theorem id_of_ty29 {M : Mem} {n : Nat} {R : Segs} (h : Ty Tryz.prog M n 29 R) : ∃ x : Plc, R = [idSeg x] := by
  cases n with
  | zero => exact h.elim
  | succ m =>
    simp only [Ty, Tryz.underlying29, Tryz.underlying5] at h
    obtain ⟨f, rfl, hf⟩ := h (by kernel_rfl)
    obtain ⟨x, rfl⟩ := idV_of hf
    exact ⟨x, rfl⟩
theorem HeldV_of_ty {M : Mem} {n : Nat} {R : Segs} (h : Ty Tryz.prog M n 60 R) : ∃ x : HeldV, R = x.segs ∧ HeldV.ok M x := by
  obtain ⟨k, Rs, rfl, hlen, hf⟩ := ty_struct Tryz.underlying60 h
  match Rs, hlen with
  | [r0, r1], _ =>
    obtain ⟨x0, rfl⟩ := id_of_ty29 (hf 0 _ r0 rfl rfl)
    obtain ⟨x1, rfl, kx1⟩ := CellV_of_ty (hf 1 _ r1 rfl rfl)
    exact ⟨⟨x0, x1⟩, rfl, ⟨kx1⟩⟩
theorem sl_of_ty52 {M : Mem} {n : Nat} {R : Segs} (h : Ty Tryz.prog M n 52 R) : ∃ x : (Sl Int), R = [.one x.val] ∧ SlK M (oneI .i64) 1 x := by
  have e : Tryz.prog.cellsOf 3 = 1 := by kernel_rfl
  obtain ⟨ad, rows, c, m, rfl, h2, h3, h5, h4⟩ := ty_sliceC Tryz.underlying52 (by rw [e]; decide) h
  obtain ⟨l, rfl, hl⟩ := rows_mapP (f := (oneI .i64)) (p := fun y => True) (fun r hr => by
      obtain ⟨z, rfl, _⟩ := Zgd Tryz.underlying3 (h4 r hr)
      exact ⟨z, rfl, trivial⟩)
  rw [e] at h2
  exact ⟨⟨ad, c, l⟩, by simp [Sl.val], ⟨h2, by simpa using h3, by simpa using h5⟩⟩
theorem WaitV_of_ty {M : Mem} {n : Nat} {R : Segs} (h : Ty Tryz.prog M n 54 R) : ∃ x : WaitV, R = x.segs ∧ WaitV.ok M x := by
  obtain ⟨k, Rs, rfl, hlen, hf⟩ := ty_struct Tryz.underlying54 h
  match Rs, hlen with
  | [r0, r1, r2, r3, r4, r5], _ =>
    obtain ⟨x0, rfl⟩ := id_of_ty29 (hf 0 _ r0 rfl rfl)
    obtain ⟨x1, rfl, _⟩ := Zgd Tryz.underlying3 (hf 1 _ r1 rfl rfl)
    obtain ⟨x2, rfl, _⟩ := Zgd Tryz.underlying22 (hf 2 _ r2 rfl rfl)
    obtain ⟨x3, rfl⟩ := AnswerV_of_ty (hf 3 _ r3 rfl rfl)
    obtain ⟨x4, rfl, _⟩ := Zgd Tryz.underlying22 (hf 4 _ r4 rfl rfl)
    obtain ⟨x5, rfl, kx5⟩ := sl_of_ty52 (hf 5 _ r5 rfl rfl)
    exact ⟨⟨x0, x1, x2, x3, x4, x5⟩, rfl, ⟨kx5⟩⟩
theorem sl_of_ty23 {M : Mem} {n : Nat} {R : Segs} (h : Ty Tryz.prog M n 23 R) : ∃ x : (Sl HeldV), R = [.one x.val] ∧ SlK M HeldV.segs 24 x ∧ ∀ y ∈ x.l, HeldV.ok M y := by
  have e : Tryz.prog.cellsOf 60 = 24 := by kernel_rfl
  obtain ⟨ad, rows, c, m, rfl, h2, h3, h5, h4⟩ := ty_sliceC Tryz.underlying23 (by rw [e]; decide) h
  obtain ⟨l, rfl, hl⟩ := rows_mapP (f := HeldV.segs) (p := fun y => HeldV.ok M y) (fun r hr => by
      exact HeldV_of_ty (h4 r hr))
  rw [e] at h2
  exact ⟨⟨ad, c, l⟩, by simp [Sl.val], ⟨h2, by simpa using h3, by simpa using h5⟩, hl⟩
theorem sl_of_ty24 {M : Mem} {n : Nat} {R : Segs} (h : Ty Tryz.prog M n 24 R) : ∃ x : (Sl WaitV), R = [.one x.val] ∧ SlK M WaitV.segs 28 x ∧ ∀ y ∈ x.l, WaitV.ok M y := by
  have e : Tryz.prog.cellsOf 54 = 28 := by kernel_rfl
  obtain ⟨ad, rows, c, m, rfl, h2, h3, h5, h4⟩ := ty_sliceC Tryz.underlying24 (by rw [e]; decide) h
  obtain ⟨l, rfl, hl⟩ := rows_mapP (f := WaitV.segs) (p := fun y => WaitV.ok M y) (fun r hr => by
      exact WaitV_of_ty (h4 r hr))
  rw [e] at h2
  exact ⟨⟨ad, c, l⟩, by simp [Sl.val], ⟨h2, by simpa using h3, by simpa using h5⟩, hl⟩
theorem ServerV_of_ty {M : Mem} {n : Nat} {R : Segs} (h : Ty Tryz.prog M n 26 R) : ∃ x : ServerV, R = x.segs ∧ ServerV.ok M x := by
  obtain ⟨k, Rs, rfl, hlen, hf⟩ := ty_struct Tryz.underlying26 h
  match Rs, hlen with
  | [r0, r1, r2, r3, r4], _ =>
    obtain ⟨x0, rfl, _⟩ := Zgd Tryz.underlying3 (hf 0 _ r0 rfl rfl)
    obtain ⟨x1, rfl, _⟩ := Zgd Tryz.underlying22 (hf 1 _ r1 rfl rfl)
    obtain ⟨x2, rfl, kx2, lx2⟩ := sl_of_ty23 (hf 2 _ r2 rfl rfl)
    obtain ⟨x3, rfl, kx3, lx3⟩ := sl_of_ty24 (hf 3 _ r3 rfl rfl)
    obtain ⟨x4, rfl, _⟩ := Zgd Tryz.underlying22 (hf 4 _ r4 rfl rfl)
    exact ⟨⟨x0, x1, x2, x3, x4⟩, rfl, ⟨kx2, lx2, kx3, lx3⟩⟩
theorem PeerV_of_ty {M : Mem} {n : Nat} {R : Segs} (h : Ty Tryz.prog M n 80 R) : ∃ x : PeerV, R = x.segs := by
  obtain ⟨k, Rs, rfl, hlen, hf⟩ := ty_struct Tryz.underlying80 h
  match Rs, hlen with
  | [r0, r1], _ =>
    obtain ⟨x0, rfl, _⟩ := Zgd Tryz.underlying3 (hf 0 _ r0 rfl rfl)
    obtain ⟨x1, rfl⟩ := id_of_ty29 (hf 1 _ r1 rfl rfl)
    exact ⟨⟨x0, x1⟩, rfl⟩
theorem OpV_of_ty {M : Mem} {n : Nat} {R : Segs} (h : Ty Tryz.prog M n 31 R) : ∃ x : OpV, R = x.segs := by
  obtain ⟨k, Rs, rfl, hlen, hf⟩ := ty_struct Tryz.underlying31 h
  match Rs, hlen with
  | [r0, r1, r2, r3, r4], _ =>
    obtain ⟨x0, rfl, _⟩ := Zgd Tryz.underlying3 (hf 0 _ r0 rfl rfl)
    obtain ⟨x1, rfl, _⟩ := Zgd Tryz.underlying22 (hf 1 _ r1 rfl rfl)
    obtain ⟨x2, rfl, _⟩ := Zgd Tryz.underlying3 (hf 2 _ r2 rfl rfl)
    obtain ⟨x3, rfl, _⟩ := Zgd Tryz.underlying22 (hf 3 _ r3 rfl rfl)
    obtain ⟨x4, rfl, _⟩ := ty_str Tryz.underlying9 (hf 4 _ r4 rfl rfl)
    exact ⟨⟨x0, x1, x2, x3, x4⟩, rfl⟩
theorem ParcelV_of_ty {M : Mem} {n : Nat} {R : Segs} (h : Ty Tryz.prog M n 39 R) : ∃ x : ParcelV, R = x.segs ∧ ParcelV.ok M x := by
  obtain ⟨k, Rs, rfl, hlen, hf⟩ := ty_struct Tryz.underlying39 h
  match Rs, hlen with
  | [r0, r1, r2, r3, r4, r5, r6], _ =>
    obtain ⟨x0, rfl, _⟩ := Zgd Tryz.underlying3 (hf 0 _ r0 rfl rfl)
    obtain ⟨x1, rfl, _⟩ := Zgd Tryz.underlying22 (hf 1 _ r1 rfl rfl)
    obtain ⟨x2, rfl⟩ := id_of_ty29 (hf 2 _ r2 rfl rfl)
    obtain ⟨x3, rfl⟩ := OpV_of_ty (hf 3 _ r3 rfl rfl)
    obtain ⟨x4, rfl⟩ := AnswerV_of_ty (hf 4 _ r4 rfl rfl)
    obtain ⟨x5, rfl, _⟩ := Zgd Tryz.underlying22 (hf 5 _ r5 rfl rfl)
    obtain ⟨x6, rfl, kx6⟩ := CellV_of_ty (hf 6 _ r6 rfl rfl)
    exact ⟨⟨x0, x1, x2, x3, x4, x5, x6⟩, rfl, ⟨kx6⟩⟩
theorem sl_of_ty27 {M : Mem} {n : Nat} {R : Segs} (h : Ty Tryz.prog M n 27 R) : ∃ x : (Sl PeerV), R = [.one x.val] ∧ SlK M PeerV.segs 21 x := by
  have e : Tryz.prog.cellsOf 80 = 21 := by kernel_rfl
  obtain ⟨ad, rows, c, m, rfl, h2, h3, h5, h4⟩ := ty_sliceC Tryz.underlying27 (by rw [e]; decide) h
  obtain ⟨l, rfl, hl⟩ := rows_mapP (f := PeerV.segs) (p := fun y => True) (fun r hr => by
      obtain ⟨z9, h9⟩ := PeerV_of_ty (h4 r hr)
      exact ⟨z9, h9, trivial⟩)
  rw [e] at h2
  exact ⟨⟨ad, c, l⟩, by simp [Sl.val], ⟨h2, by simpa using h3, by simpa using h5⟩⟩
end Go.Proofs.YtpkeilhilpogiaaGreat
namespace Go.Proofs.YtpkeilhilpogiaaGreat
open Go.Esp
end Go.Proofs.YtpkeilhilpogiaaGreat
namespace Go.Esp
theorem ofB_step {f g : Nat → Nat} (hf : ∀ i, f i < 256) (hg : ∀ i, g i < 256) {n : Nat} (h : ofB n f < ofB n g) : ofB (n + 1) f < ofB (n + 1) g := by
  have := hf n
  have := hg n
  simp only [ofB]
  omega
theorem ofB_mono {f g : Nat → Nat} (hf : ∀ i, f i < 256) (hg : ∀ i, g i < 256) {m : Nat} (h : ofB m f < ofB m g) : ∀ n, ofB (m + n) f < ofB (m + n) g
  | 0 => h
  | n + 1 => ofB_step hf hg (ofB_mono hf hg h n)
theorem less_of {a b : Plc} {k : Nat} (hk : k < 20) (h : ∀ j, j < k → idB a j = idB b j) (hlt : idB a k < idB b k) : a.toNat < b.toNat := by
  rw [← idB_toNat a, ← idB_toNat b]
  have h1 : ofB (k + 1) (idB a) < ofB (k + 1) (idB b) := by
    simp only [ofB, ofB_congr h]
    omega
  have := ofB_mono (idB_lt a) (idB_lt b) h1 (20 - (k + 1))
  rwa [show k + 1 + (20 - (k + 1)) = 20 by omega] at this
theorem less_at {a b : Plc} {k : Nat} (hk : k < 20) (h : ∀ j, j < k → idB a j = idB b j) (hne : ¬ idB a k = idB b k) : a.toNat < b.toNat ↔ idB a k < idB b k := by
  constructor
  · intro hlt
    rcases Nat.lt_or_ge (idB a k) (idB b k) with h1 | h1
    · exact h1
    · have := less_of hk (fun j hj => (h j hj).symm) (show idB b k < idB a k by omega)
      omega
  · exact less_of hk h
theorem plc_eq {a b : Plc} (h : ∀ j, j < 20 → idB a j = idB b j) : a = b := by
  apply BitVec.eq_of_toNat_eq
  rw [← idB_toNat a, ← idB_toNat b]
  exact ofB_congr h
def idBytes (x : Plc) : ByteArray := ⟨((List.range 20).map fun i => (idB x i).toUInt8).toArray⟩
theorem idBytes_size (x : Plc) : (idBytes x).size = 20 := by simp [idBytes, ByteArray.size]
theorem idBytes_at (x : Plc) {i : Nat} (h : i < 20) : (idBytes x)[i]! = (idB x i).toUInt8 := by
  have hs : i < (idBytes x).size := by rw [idBytes_size]; exact h
  rw [getElem!_pos (idBytes x) i hs]
  show (((List.range 20).map fun i => (idB x i).toUInt8).toArray)[i]'(by simpa using h) = _
  simp
theorem u8_inj {m n : Nat} (hm : m < 256) (hn : n < 256) : m.toUInt8 = n.toUInt8 ↔ m = n := by
  constructor
  · intro h
    have := congrArg UInt8.toNat h
    simp only [Nat.toUInt8, UInt8.toNat_ofNat'] at this
    omega
  · rintro rfl; rfl
theorem u8_lt {m n : Nat} (hm : m < 256) (hn : n < 256) : m.toUInt8 < n.toUInt8 ↔ m < n := by
  rw [UInt8.lt_iff_toNat_lt]
  simp only [Nat.toUInt8, UInt8.toNat_ofNat']
  omega
def cmpP (a b : Plc) : Int := if a.toNat < b.toNat then -1 else if a = b then 0 else 1
theorem cmp_bytes (a b : Plc) : Extern.BytealgCompare.cmp (idBytes a) (idBytes b) = cmpP a b := by
  unfold Extern.BytealgCompare.cmp cmpP
  rw [idBytes_size, idBytes_size, Nat.min_self]
  cases hf : (List.range 20).find? fun i => (idBytes a)[i]! != (idBytes b)[i]! with
  | none =>
    have h := List.find?_eq_none.1 hf
    have e : a = b := plc_eq fun j hj => by
      have := h j (List.mem_range.2 hj)
      rw [idBytes_at a hj, idBytes_at b hj] at this
      exact (u8_inj (idB_lt _ _) (idB_lt _ _)).1 (by simpa using this)
    subst e
    simp
  | some i =>
    have h1 := List.find?_some hf
    have hi : i < 20 := List.mem_range.1 (List.mem_of_find?_eq_some hf)
    have h2 : ∀ j, j < i → idB a j = idB b j := by
      intro j hj
      have hj' : j < 20 := by omega
      rw [List.find?_range_eq_some] at hf
      have := hf.2.2 j hj
      rw [idBytes_at a hj', idBytes_at b hj'] at this
      exact (u8_inj (idB_lt _ _) (idB_lt _ _)).1 (by simpa using this)
    rw [idBytes_at a hi, idBytes_at b hi] at h1
    have hne : ¬ idB a i = idB b i := fun e => by rw [e] at h1; simp at h1
    have hl := less_at hi h2 hne
    simp only [idBytes_at a hi, idBytes_at b hi, u8_lt (idB_lt a i) (idB_lt b i)]
    have hab : a ≠ b := fun e => hne (by rw [e])
    simp only [hl, hab, if_false]
section
variable {P : Program} {M : Mem} {H : Hp}
theorem run_loadBytes {x : Plc} {w : World} {b : Nat} {T : TypeId} (hb : w.heap[b]? = some (rowO [idSeg x] T)) : ∀ (n k : Nat) (acc : ByteArray), k + n = 20 → acc.data.toList = (List.range k).map (fun i => (idB x i).toUInt8) →
    (Extern.Bytes.loadBytes ⟨b, k, none⟩ n acc).run P w = .ok (idBytes x) w
  | 0, k, acc, hk, ha => by
    have : acc = idBytes x := by
      apply ByteArray.ext
      apply Array.ext'
      rw [ha]
      simp [idBytes, show k = 20 by omega]
    subst this
    rfl
  | n + 1, k, acc, hk, ha => by
    have hk' : k < 20 := by omega
    have hc : w.cell? ⟨b, k, none⟩ = some (.int .u8 (idB x k)) := by
      rw [cell_of_row hb]
      have := id_at' (x := x) hk'
      simpa using this
    unfold Extern.Bytes.loadBytes
    rw [Sem.run_bind, run_load, hc]
    show (Sem.run P _ w) = _
    have := run_loadBytes hb n (k + 1) (acc.push (idB x k).toUInt8) (by omega) (by simp [ByteArray.push, ha, List.range_succ])
    simpa [Addr.add_lit] using this
theorem run_compare {a b : Plc} {ba bb : Nat} {T U : TypeId} {w : World} (ha : w.heap[ba]? = some (rowO [idSeg a] T)) (hb : w.heap[bb]? = some (rowO [idSeg b] U)) :
    (Extern.BytealgCompare.compare #[.slice (some ⟨ba, 0, none⟩) 20 20, .slice (some ⟨bb, 0, none⟩) 20 20]).run P w = .ok (.int .i64 (cmpP a b)) w := by
  have h1 : (Extern.Bytes.bytesOf (.slice (some ⟨ba, 0, none⟩) 20 20)).run P w = .ok (idBytes a) w := run_loadBytes ha 20 0 .empty rfl (by rfl)
  have h2 : (Extern.Bytes.bytesOf (.slice (some ⟨bb, 0, none⟩) 20 20)).run P w = .ok (idBytes b) w := run_loadBytes hb 20 0 .empty rfl (by rfl)
  show (do let u ← Extern.Bytes.bytesOf (.slice (some ⟨ba, 0, none⟩) 20 20); let v ← Extern.Bytes.bytesOf (.slice (some ⟨bb, 0, none⟩) 20 20); pure (goInt (Extern.BytealgCompare.cmp u v)) : Sem Value).run P w = _
  rw [Zbk h1, Zbk h2, cmp_bytes]
  rfl
end
end Go.Esp
namespace Go.Esp
def LessP (a b : Plc) : Prop := a.toNat < b.toNat
instance (a b : Plc) : Decidable (LessP a b) := by unfold LessP; exact inferInstance
theorem cmpP_neg {a b : Plc} : cmpP a b < 0 ↔ LessP a b := by
  unfold cmpP LessP
  split
  · rename_i h; simp [h]
  · rename_i h
    split <;> simp [h]
def CircOk (l : List PeerV) : Prop := (∀ p ∈ l, 0 ≤ p.addr ∧ p.addr ≤ 999) ∧ (l.map PeerV.addr).Nodup ∧ l.Pairwise (fun p q => LessP p.id q.id)
instance (l : List PeerV) : Decidable (CircOk l) := by unfold CircOk; exact inferInstance
def IsCircle (l : List PeerV) : Prop := (1 ≤ l.length ∧ l.length ≤ 16) ∧ CircOk l
instance (l : List PeerV) : Decidable (IsCircle l) := by unfold IsCircle; exact inferInstance
theorem circ_pre {l : List PeerV} (h : CircOk l) (k : Nat) : CircOk (l.take k) :=
  ⟨fun p hp => h.1 p (List.mem_of_mem_take hp), h.2.1.sublist ((List.take_sublist k l).map _), h.2.2.sublist (List.take_sublist k l)⟩
theorem Zfo {l : List PeerV} {k : Nat} (hk : k < l.length) : CircOk (l.take (k + 1)) ↔ CircOk (l.take k) ∧ (0 ≤ l[k].addr ∧ l[k].addr ≤ 999) ∧ l[k].addr ∉ (l.take k).map PeerV.addr ∧ (∀ h : 0 < k, LessP (l[k - 1]'(by omega)).id l[k].id) := by
  have e : l.take (k + 1) = l.take k ++ [l[k]] := by rw [List.take_add_one, List.getElem?_eq_getElem hk]; rfl
  rw [e]
  unfold CircOk
  simp only [List.mem_append, List.mem_singleton, List.map_append, List.map_cons, List.map_nil, List.nodup_append, List.pairwise_append, List.pairwise_singleton, List.nodup_cons, List.not_mem_nil, not_false_eq_true, List.nodup_nil, and_true, true_and]
  constructor
  · rintro ⟨h1, ⟨h2, h3⟩, h4, h5⟩
    refine ⟨⟨fun p hp => h1 p (.inl hp), h2, h4⟩, h1 _ (.inr rfl), fun hm => h3 _ hm _ rfl rfl, fun h0 => ?_⟩
    refine h5 _ ?_ _ rfl
    rw [List.mem_take_iff_getElem]
    exact ⟨k - 1, by omega, rfl⟩
  · rintro ⟨⟨h1, h2, h3⟩, h4, h5, h6⟩
    refine ⟨fun p hp => ?_, ⟨h2, fun a ha b hb => ?_⟩, h3, fun p hp q hq => ?_⟩
    · rcases hp with hp | rfl
      · exact h1 p hp
      · exact h4
    · subst hb; intro e; subst e; exact h5 ha
    · subst hq
      rw [List.mem_take_iff_getElem] at hp
      obtain ⟨j, hj, rfl⟩ := hp
      have hjk : j < k := by omega
      have hlast := h6 (by omega)
      rcases Nat.lt_or_ge j (k - 1) with h | h
      · have := (List.pairwise_iff_getElem.1 h3) j (k - 1) (by simp; omega) (by simp; omega) h
        simp only [List.getElem_take] at this
        exact Nat.lt_trans this hlast
      · have : j = k - 1 := by omega
        subst this; exact hlast
theorem mem_map_take {l : List PeerV} {k j : Nat} (hj : j < k) (hk : k ≤ l.length) : (l[j]'(by omega)).addr ∈ (l.take k).map PeerV.addr := by
  refine List.mem_map.2 ⟨l[j]'(by omega), ?_, rfl⟩
  rw [List.mem_take_iff_getElem]
  exact ⟨j, by omega, rfl⟩
theorem not_mem_step {l : List PeerV} {a : Int} {j : Nat} (hj : j < l.length) (h : a ∉ (l.take j).map PeerV.addr) (hne : ¬ l[j].addr = a) : a ∉ (l.take (j + 1)).map PeerV.addr := by
  rw [take_map_succ _ hj]
  intro hm
  rcases List.mem_append.1 hm with hm | hm
  · exact h hm
  · exact hne (List.mem_singleton.1 hm).symm
def pO (l : List PeerV) (x : Plc) (i : Nat) : Bool := match l[i]? with
  | some p => decide (¬ LessP p.id x)
  | none => true
theorem pO_at {l : List PeerV} {x : Plc} {i : Nat} (h : i < l.length) : pO l x i = decide (¬ LessP l[i].id x) := by
  unfold pO; rw [List.getElem?_eq_getElem h]
theorem pO_mono {l : List PeerV} {x : Plc} (h : CircOk l) (i j : Nat) (hij : i ≤ j) (hj : j < l.length) (hp : pO l x i = true) : pO l x j = true := by
  rw [pO_at (by omega)] at hp ⊢
  simp only [decide_eq_true_eq] at hp ⊢
  rcases Nat.lt_or_ge i j with h1 | h1
  · have := (List.pairwise_iff_getElem.1 h.2.2) i j (by omega) hj h1
    unfold LessP at *
    omega
  · obtain rfl : i = j := by omega
    exact hp
def ownerI (l : List PeerV) (x : Plc) : Nat := firstP (pO l x) l.length % l.length
theorem ownerI_lt {l : List PeerV} {x : Plc} (h : 0 < l.length) : ownerI l x < l.length := Nat.mod_lt _ h
theorem ownerI_at {l : List PeerV} {x : Plc} {k : Nat} (hk : k < l.length) (h1 : ∀ j, j < k → pO l x j = false) (h2 : pO l x k = true) : ownerI l x = k := by
  unfold ownerI
  rw [firstP_at (by omega) h1 (fun _ => h2), Nat.mod_eq_of_lt hk]
theorem ownerI_none {l : List PeerV} {x : Plc} (h1 : ∀ j, j < l.length → pO l x j = false) : ownerI l x = 0 := by
  unfold ownerI
  rw [firstP_at (Nat.le_refl _) h1 (fun h => by omega), Nat.mod_self]
def ofII (r : Int × Int) : Value := .tuple #[.int .i64 r.1, .int .i64 r.2]
def ownerR (l : List PeerV) (x : Plc) : Int × Int := if IsCircle l then ((ownerI l x : Nat), 0) else (0, 1)
end Go.Esp
namespace Go.Esp
def lastV (x : Plc) (k : Nat) : Vector Value 20 := Vector.ofFn fun i : Fin 20 => if 20 ≤ i.val + k then .int .u8 (idB x i.val) else .int .u8 0
def frontV (x y : Plc) (k : Nat) : Vector Value 20 := Vector.ofFn fun i : Fin 20 => if i.val < k then .int .u8 (idB x i.val) else .int .u8 (idB y i.val)
def carryK (a b : Plc) (k : Nat) : Nat := (a.toNat % 256 ^ k + b.toNat % 256 ^ k) / 256 ^ k
def borrowK (a b : Plc) (k : Nat) : Nat := if a.toNat % 256 ^ k < b.toNat % 256 ^ k then 1 else 0
def powP (k : Nat) : Plc := BitVec.ofNat 160 (2 ^ k)
def OpenP (a x b : Plc) : Prop := x ≠ a ∧ (a = b ∨ LessP (x - a) (b - a))
instance (a x b : Plc) : Decidable (OpenP a x b) := by unfold OpenP; exact inferInstance
def HalfP (a x b : Plc) : Prop := x = b ∨ OpenP a x b
instance (a x b : Plc) : Decidable (HalfP a x b) := by unfold HalfP; exact inferInstance
def powR (k : Int) : Plc × Int := if 0 ≤ k ∧ k < 160 then (powP k.toNat, 0) else (0, 1)
def ofIdI (r : Plc × Int) : Value := .tuple #[aggV [idSeg r.1], .int .i64 r.2]
end Go.Esp
namespace Go.Proofs.YtpkeilhilpogiaaGreat
open Go.Esp
theorem F.arr29 : arOf Tryz.prog 29 = some (20, 5) := by kernel_rfl
theorem F.ext105 : Ext Tryz.prog 105 Extern.BytealgCompare.compare := fun args w => by kernel_rfl
theorem F.lay5 : lay Tryz.prog 5 = some (false, 1) := by kernel_rfl
theorem F.ok78 : okFn Tryz.prog 78 = true := by kernel_rfl
theorem bcmp_ok (M : Mem) (ba bb : Nat) (a b : Plc) : Fo Tryz.prog 78 [.slice (some ⟨ba, 0, none⟩) 20 20, .slice (some ⟨bb, 0, none⟩) 20 20] M [(bb, rowO [idSeg b] 29), (ba, rowO [idSeg a] 29)] (fun M' v => M' = M ∧ v = .int .i64 (cmpP a b)) := by
  refine Zfq Tryz.func78 rfl Tryz.ntmps78 rfl ?_; intro H
  refine Zj ?_; refine Za (l := [0]) rfl ?_; refine Zd ?_; refine Ze ?_; refine Zc ?_; refine Zj ?_; refine Za (l := [0, 1, 2, 3]) rfl ?_
  iterate 2 refine Zf ?_
  refine X_ext rfl rfl F.ext105 rfl (fun w hw => run_compare (hw.own _ _ (by repeat first | exact List.Mem.head _ | refine List.Mem.tail _ ?_ | refine List.mem_append_right _ ?_)) (hw.own _ _ (by repeat first | exact List.Mem.head _ | refine List.Mem.tail _ ?_ | refine List.mem_append_right _ ?_))) rfl ?_; refine Zd ?_; refine Ze ?_; refine Zc ?_; refine Y_pk [4] ?_; refine Zak ?_
  refine Zaj (.inr rfl) (.tmp rfl .nil) (fun w hw => ?_)
  exact ⟨_, M, rfl, Mem.le.refl M, hw.c, rfl, rfl⟩
theorem Less_ok (M : Mem) (a : Plc) (b : Plc) : Fs Tryz.prog 37 [aggV [idSeg a], aggV [idSeg b]] M (fun v => v = Value.bool (decide (LessP a b))) := by
  refine Zci Tryz.func37 rfl Tryz.ntmps37 rfl ?_; intro H
  refine Zj ?_; refine Za (l := [0, 1, 2]) rfl ?_
  refine Zcz ?_; intro b1
  refine Zcz ?_; intro b2
  refine Zd ?_; refine Ze ?_; refine Zc ?_; refine Y_pk [4, 3, 2] ?_; refine Zj ?_; refine Zar (l := [0, 1, 2, 3, 4]) #[0, 0, 3, 7, 15] _ rfl (by kernel_rfl) (by kernel_rfl) St.drawn (fun _ h => h) ?_
  iterate 2 refine X_slice_arr rfl rfl rfl F.arr29 rfl ?_
  refine X_fo rfl rfl F.ok78 rfl (bcmp_ok _ _ _ a b) (by repeat first | exact Rem.here _ | exact Rem.two | apply Rem.skip | apply Rem.over) (Zbq rfl) ?_
  rintro _ M1 _ ⟨hM1, rfl⟩; subst M1
  refine Zav ?_; refine Zd ?_; refine Ze ?_; refine Zc ?_; refine Y_pk [4] ?_; refine Zak ?_
  refine Zaj (.inr rfl) (.tmp rfl .nil) (fun w hw => ?_)
  refine ⟨_, rfl, (hw.c), ?_⟩
  clear hw
  exact congrArg Value.bool (decide_eq_decide.2 cmpP_neg)
theorem rLess_ok (M : Mem) (a : Plc) (b : Plc) : Fs Tryz.prog 40 [aggV [idSeg a], aggV [idSeg b]] M (fun v => v = Value.bool (decide (LessP a b))) := by
  refine Zci Tryz.func40 rfl Tryz.ntmps40 rfl ?_; intro H
  refine Zj ?_; refine Za (l := [0, 1, 2]) rfl ?_
  refine Zcz ?_; intro b1
  refine Zcz ?_; intro b2
  refine Zd ?_; refine Ze ?_; refine Zc ?_; refine Y_pk [4, 3, 2] ?_
  iterate 2 refine Zj ?_
  refine Za (l := [0]) rfl ?_; refine Zd ?_; refine Ze ?_; refine Zc ?_; refine Zbe ?_; refine Y_pk [5, 4, 3, 2] ?_; refine Zed (.succ .zero) (fun (k : Nat) z => z = [(5, .int .i64 (k : Int))] ∧ k ≤ 20 ∧ (∀ j, j < k → idB a j = idB b j)) (fun k => 20 - k) (0) (⟨rfl, by omega, by (intro j hj; omega)⟩) ?_
  rintro k _ ⟨rfl, hk, hI⟩
  iterate 2 refine Zj ?_
  refine Za (l := [0, 1]) rfl ?_; refine Zf ?_; refine Zav ?_; refine Ze ?_; refine Zc ?_
  refine Zau rfl (fun hc3 => ?_) (fun hc3 => ?_)
  ·replace hc3 := dT hc3
   refine Zax ?_; refine Zc ?_; refine Zj ?_; refine Zbe ?_; refine Zj ?_; refine Zar (l := [0, 1, 2, 3, 4, 5, 6]) #[0, 1, 3, 0, 8, 24, 63] _ rfl (by kernel_rfl) (by kernel_rfl) St.drawn (fun _ h => h) ?_; refine Zf ?_; refine X_indexAddr_arr rfl rfl rfl rfl F.arr29 (by rfl) (by omega) rfl ?_; refine X_load_cell rfl rfl rfl (by repeat first | exact List.Mem.head _ | refine List.Mem.tail _ ?_ | refine List.mem_append_right _ ?_) F.lay5 (by exact id_at (by omega)) rfl ?_; refine Zf ?_; refine X_indexAddr_arr rfl rfl rfl rfl F.arr29 (by rfl) (by omega) rfl ?_; refine X_load_cell rfl rfl rfl (by repeat first | exact List.Mem.head _ | refine List.Mem.tail _ ?_ | refine List.mem_append_right _ ?_) F.lay5 (by exact id_at (by omega)) rfl ?_; refine Zav ?_; refine Ze ?_; refine Zc ?_
   refine Zau rfl (fun hc4 => ?_) (fun hc4 => ?_)
   ·replace hc4 := nT hc4
    refine Zj ?_; refine Zar (l := [0, 1, 2, 3, 4, 5, 6, 7]) #[0, 1, 3, 0, 8, 24, 63, 127] _ rfl (by kernel_rfl) (by kernel_rfl) St.drawn (fun _ h => h) ?_; refine Zf ?_; refine X_indexAddr_arr rfl rfl rfl rfl F.arr29 (by rfl) (by omega) rfl ?_; refine X_load_cell rfl rfl rfl (by repeat first | exact List.Mem.head _ | refine List.Mem.tail _ ?_ | refine List.mem_append_right _ ?_) F.lay5 (by exact id_at (by omega)) rfl ?_; refine Zf ?_; refine X_indexAddr_arr rfl rfl rfl rfl F.arr29 (by rfl) (by omega) rfl ?_; refine X_load_cell rfl rfl rfl (by repeat first | exact List.Mem.head _ | refine List.Mem.tail _ ?_ | refine List.mem_append_right _ ?_) F.lay5 (by exact id_at (by omega)) rfl ?_; refine Zav ?_; refine Zd ?_; refine Ze ?_; refine Zc ?_; refine Zak ?_; refine Zbj ?_
    iterate 2 refine Zba ?_
    refine Zbj ?_; refine Zba ?_
    refine Zaj (.inr rfl) (.tmp rfl .nil) (fun w hw => ?_)
    refine ⟨_, rfl, (hw.c), ?_⟩
    clear hw
    refine congrArg Value.bool ?_
    exact decide_eq_decide.2 ((Int.ofNat_lt).trans (less_at (by omega) hI (by omega)).symm)
   ·replace hc4 := nF hc4
    refine Zax ?_; refine Zde ?_; refine Zc ?_; refine Za (l := [0, 1, 2]) rfl ?_; refine Zf ?_; refine Zcc rfl rfl rfl rfl rfl (by exact Zbf (by decide) (by omega)) rfl ?_; refine Zd ?_; refine Ze ?_; refine Zda (a' := [(5, _)]) (k + 1) (.cons (k := 5) rfl (.cons (k := 4) rfl (.cons (k := 3) rfl (.cons (k := 2) rfl (.nil))))) (fun w hw => by first | exact hw | exact hw.c) ?_ ?_
    ·refine ⟨rfl, by omega, ?_⟩
     intro j hj; rcases Nat.lt_or_ge j k with h9 | h9; exact hI j h9; obtain rfl : j = k := by omega
     omega
    ·omega
  ·replace hc3 := dF hc3
   refine Zcm ?_
   iterate 2 refine Zcd ?_
   refine Zdl ?_; refine Zc ?_; refine Y_pk [4] ?_; refine Zj ?_; refine Za (l := [0]) rfl ?_; refine Zd ?_; refine Ze ?_; refine Zc ?_; refine Zak ?_
   refine Zaj (.inr rfl) (.tmp rfl .nil) (fun w hw => ?_)
   refine ⟨_, rfl, (hw.c), ?_⟩
   clear hw
   refine congrArg Value.bool ?_
   (have e : a = b := plc_eq (fun j hj => hI j (by omega)); subst e; simp [LessP])
end Go.Proofs.YtpkeilhilpogiaaGreat
namespace Go.Esp
theorem rowsCells_len {sz : Nat} {rows : List Segs} (h : lens sz rows) : (rowsCells rows).length = rows.length * sz := Zcg h
theorem lens.take {sz : Nat} {rows : List Segs} (h : lens sz rows) (k : Nat) : lens sz (rows.take k) := fun r hr => h r (List.mem_of_mem_take hr)
theorem lens.drop {sz : Nat} {rows : List Segs} (h : lens sz rows) (k : Nat) : lens sz (rows.drop k) := fun r hr => h r (List.mem_of_mem_drop hr)
theorem rowsCells_take {sz : Nat} {rows : List Segs} (h : lens sz rows) {k : Nat} (hk : k ≤ rows.length) : rowsCells (rows.take k) = (rowsCells rows).take (k * sz) := by
  have e : rowsCells rows = rowsCells (rows.take k) ++ rowsCells (rows.drop k) := by rw [← Zdh, List.take_append_drop]
  have hl : (rowsCells (rows.take k)).length = k * sz := by rw [Zcg (h.take k)]; simp [hk]
  rw [e, ← hl, List.take_left]
theorem rowsCells_drop {sz : Nat} {rows : List Segs} (h : lens sz rows) {k : Nat} (hk : k ≤ rows.length) : rowsCells (rows.drop k) = (rowsCells rows).drop (k * sz) := by
  have e : rowsCells rows = rowsCells (rows.take k) ++ rowsCells (rows.drop k) := by rw [← Zdh, List.take_append_drop]
  have hl : (rowsCells (rows.take k)).length = k * sz := by rw [Zcg (h.take k)]; simp [hk]
  rw [e, ← hl, List.drop_left]
theorem SlM.take {M : Mem} {a : Option Addr} {rows : List Segs} {sz : Nat} (h : SlM M a rows sz) {k : Nat} (hk : k ≤ rows.length) : SlM M a (rows.take k) sz := by
  refine ⟨h.lens.take k, fun hn => ?_⟩
  obtain ⟨b, off, c, T, fz, h1, h2, h3⟩ := h.there (fun e => hn (by rw [e]; simp))
  refine ⟨b, off, c, T, fz, h1, h2, ?_⟩
  rw [rowsCells_take h.lens hk, ← h3, List.take_take, List.length_take, Nat.min_eq_left hk]
  congr 1
  have := Nat.mul_le_mul_right sz hk
  omega
def shiftA (a : Option Addr) (c k sz : Nat) : Option Addr := if c = k then a else a.map (·.add (k * sz))
theorem SlM.drop {M : Mem} {a : Option Addr} {rows : List Segs} {sz c : Nat} (h : SlM M a rows sz) {k : Nat} (hk : k ≤ rows.length) (hc : rows.length ≤ c) : SlM M (shiftA a c k sz) (rows.drop k) sz := by
  refine ⟨h.lens.drop k, fun hn => ?_⟩
  obtain ⟨b, off, x, T, fz, h1, h2, h3⟩ := h.there (fun e => hn (by rw [e]; simp))
  have hlt : k < rows.length := by
    rcases Nat.lt_or_ge k rows.length with h' | h'
    · exact h'
    · exact (hn (List.drop_eq_nil_of_le h')).elim
  refine ⟨b, off + k * sz, x, T, fz, ?_, h2, ?_⟩
  · unfold shiftA
    rw [if_neg (by omega), h1]; simp [Addr.add_lit]
  · rw [rowsCells_drop h.lens hk, ← h3, List.drop_take, List.drop_drop, List.length_drop, Nat.sub_mul]
theorem Zdy {r : Segs} (h : flat r) : ∀ u ∈ rowsCells [r], u.oneCell' = true := fun u hu => by
  simp only [rowsCells, List.append_nil] at hu
  exact h u hu
theorem pieceV_drop {α : Type} {a : Option Addr} {sz c k : Nat} {l : List α} : pieceV a sz k l.length c = Sl.val ⟨shiftA a c k sz, c - k, l.drop k⟩ := by
  unfold pieceV shiftA
  simp only [Sl.val, List.length_drop]
theorem SlK.take {α : Type} {M : Mem} {f : α → Segs} {sz : Nat} {a : Option Addr} {c : Nat} {l : List α} (h : SlK M f sz ⟨a, c, l⟩) (k : Nat) (hk : k ≤ l.length) : SlK M f sz ⟨a, c, l.take k⟩ := by
  have h2 := h.h2; have h3 := h.h3
  simp only at h2 h3
  refine ⟨?_, ?_, ?_⟩
  · simp only [List.map_take]; exact h.h1.take (by simpa using hk)
  · simp only [List.length_take]; omega
  · simp only [List.length_take]; omega
theorem SlK.drop {α : Type} {M : Mem} {f : α → Segs} {sz : Nat} {a : Option Addr} {c : Nat} {l : List α} (h : SlK M f sz ⟨a, c, l⟩) (k : Nat) (hk : k ≤ l.length) : SlK M f sz ⟨shiftA a c k sz, c - k, l.drop k⟩ := by
  have h2 := h.h2; have h3 := h.h3
  simp only at h2 h3
  refine ⟨?_, ?_, ?_⟩
  · simp only [List.map_drop]; exact h.h1.drop (by simpa using hk) (by simpa using h3)
  · simp only [List.length_drop]; omega
  · simp only [List.length_drop]; omega
theorem OSl.caps {T sz l c : Nat} {a : Option Addr} {hs : Hp} {rows : List Segs} (h : OSl T sz (.slice a l c) hs rows) : rows.length ≤ c ∧ c ≤ maxLen ∧ l = rows.length := by
  generalize hv : Value.slice a l c = v at h
  cases h with
  | nil => cases hv; exact ⟨Nat.le_refl _, Nat.zero_le _, rfl⟩
  | own b c' _ cur g1 g2 g3 g4 g5 => cases hv; exact ⟨g2, g3, rfl⟩
theorem OSl.noneAll {α : Type} {T sz c : Nat} {f : α → Segs} {l : List α} {hs : Hp} (h : OSl T sz (.slice none l.length c) hs (l.map f)) : l = [] ∧ c = 0 ∧ hs = [] := by
  generalize hv : Value.slice none l.length c = v at h
  generalize hr : l.map f = r at h
  cases h with
  | nil => simp only [Value.slice.injEq] at hv; exact ⟨List.map_eq_nil_iff.1 hr, hv.2.2, rfl⟩
  | own => simp at hv
theorem OSl.someAll {T sz l c : Nat} {ad : Addr} {hs : Hp} {rows : List Segs} (h : OSl T sz (.slice (some ad) l c) hs rows) : ∃ b, ad = ⟨b, 0, none⟩ := by
  generalize hv : Value.slice (some ad) l c = v at h
  cases h with
  | nil => simp at hv
  | own b => simp only [Value.slice.injEq, Option.some.injEq] at hv; exact ⟨b, hv.1⟩
theorem OSl.freezeK {α : Type} {T sz : Nat} {v : Value} {hs : Hp} {f : α → Segs} {l : List α} {M : Mem} {H : Hp} (ho : OSl T sz v hs (l.map f)) {w : World} (hw : St M (hs ++ H) w) : ∃ (M' : Mem) (s : Sl α), M.le M' ∧ St M' H w ∧ v = s.val ∧ s.l = l ∧ SlK M' f sz s := by
  obtain ⟨M', a, c, h1, h2, h3, h4⟩ := ho.freeze hw
  rw [h3] at ho
  obtain ⟨g1, g2, _⟩ := ho.caps
  simp only [List.length_map] at g1
  exact ⟨M', ⟨a, c, l⟩, h1, h2, by rw [h3]; simp [Sl.val], rfl, h4, by simp only; omega, g1⟩
end Go.Esp
namespace Go.Esp
section
variable {P : Program} {n : Sh} {ops : Array Oper} {Q : Exit → Act → World → Prop} {rest : List Nat} {M M' : Mem} {H H' H0 : Hp} {e : Env} {J S : World → Prop} {A : As} {i : Nat}
  {dst : Option Tmp} {d : Tmp} {op : Op} {ty : TypeId} {pos : String} {af : Array Edge} {gd : Option (Nat × Bool)}
theorem Zfi {α : Type} {f : α → Segs} (hf : ∀ x, flat (f x)) : ∀ (l : List α), ∀ u ∈ rowsCells (l.map f), u.oneCell' = true
  | [], u, hu => by cases hu
  | x :: l, u, hu => by
    rcases List.mem_append.1 (show u ∈ Segs.cells (f x) ++ rowsCells (l.map f) from hu) with hu | hu
    · exact hf x u hu
    · exact Zfi hf l u hu
theorem SlM.none_nil {α : Type} {f : α → Segs} {sz : Nat} {l : List α} (h : SlM M Option.none (l.map f) sz) : l = [] := by
  cases l with
  | nil => rfl
  | cons x l => obtain ⟨b, off, c, T, fz, h1, _⟩ := h.there (by simp); cases h1
theorem SlM.src {ad : Addr} {rows : List Segs} {sz l c : Nat} (h : SlM M (some ad) rows sz) (h1 : ∀ u ∈ rowsCells rows, u.oneCell' = true) (hl : l = rows.length) : Src M H sz (.slice (some ad) l c) rows := by
  subst hl
  refine ⟨h.lens, h1, ad, c, rfl, fun w hw j u hu => ?_⟩
  obtain ⟨b, off, x, T, fz, e1, h2, h3⟩ := h.there (fun e => by rw [e] at hu; simp [rowsCells] at hu)
  cases e1
  rw [Addr.add_lit, cell_of_row (hw.mem _ _ h2)]
  rw [← h3, List.getElem?_take, List.getElem?_drop] at hu
  split at hu
  · simpa using hu
  · cases hu
theorem X_append_none {t E sz by_ : Nat} {x y : Operand} {a : Option Addr} {l c c' : Nat} {ats : Array TypeId} (hi : ops[i]? = some ⟨some d, .call ⟨.builtin .append, #[x, y], ats⟩, ty, pos, af, gd⟩) (hg : want ops e gd = some true)
    (hx : ev e x = some (.slice a l c)) (hy : ev e y = some (.slice Option.none 0 c')) (hat : ats = #[t, t]) (ht : slOf P t = some (E, sz, by_)) (hlc : l ≤ c) (hd : Nat.ble (d + 1) n.sz = true)
    (hk : XD P n ops Q rest (St M H) ⟨M, H⟩ ((d, .slice a l c) :: e)) (hnw : n.wrs.contains i = false := by rfl) : XD P n ops Q (i :: rest) J ⟨M, H⟩ e := by
  subst hat
  refine Zgv hi rfl hg (fun a' w ha hw => ?_) hnw
  obtain ⟨it, hu, hit, rfl, rfl⟩ := Zfd ht
  have hr : (Builtin.append_ #[t, t] ty #[.slice a l c, .slice Option.none 0 c']).run P w = .ok (.slice a l c) w := by
    cases a <;> simp [Builtin.append_, run_underlying hu, sizeOf, typeInfo, hit, Builtin.lenOf, Builtin.firstCells, hlc, storeCells]
  unfold Oper.does
  have : (execOp a'.eval ⟨some d, .call ⟨.builtin .append, #[x, y], #[t, t]⟩, ty, pos, af, gd⟩).run P w = .ok (.value (.slice a l c)) w := by
    simp only [execOp, resolve, pure_bind, invoke]
    have : #[x, y].map a'.eval = #[.slice a l c, .slice Option.none 0 c'] := by simp [ha.ev hx, ha.ev hy]
    rw [this]
    exact Zfm hr
  rw [this]
  exact ⟨⟨M, H⟩, _, hw, ha.put hd _, hk⟩
theorem rowSplice {T sz b c k : Nat} {rows news : List Segs} {cur : Array Value} (h1 : lens sz rows) (h2 : lens sz news) (h3 : rows.length ≤ c) (h4 : c ≤ maxLen) (h5 : cur.size = c * sz) (h6 : cur.toList.take (rows.length * sz) = rowsCells rows) (hk : k + news.length ≤ rows.length) :
    OSl T sz (.slice (some ⟨b, 0, Option.none⟩) rows.length c) [(b, .cells (cur.toList.take (k * sz) ++ rowsCells news ++ cur.toList.drop (k * sz + (rowsCells news).length)).toArray T (0, 0))] (rows.take k ++ news ++ rows.drop (k + news.length)) := by
  have hnl : (rowsCells news).length = news.length * sz := Zcg h2
  have hle : k * sz + news.length * sz ≤ rows.length * sz := by rw [← Nat.add_mul]; exact Nat.mul_le_mul_right _ hk
  have hrc : rows.length * sz ≤ c * sz := Nat.mul_le_mul_right _ h3
  have hlen : (rows.take k ++ news ++ rows.drop (k + news.length)).length = rows.length := by simp; omega
  have hll : lens sz (rows.take k ++ news ++ rows.drop (k + news.length)) := ((h1.take k).append h2).append (h1.drop _)
  have := OSl.own (T := T) (sz := sz) b c (rows.take k ++ news ++ rows.drop (k + news.length)) (cur.toList.take (k * sz) ++ rowsCells news ++ cur.toList.drop (k * sz + (rowsCells news).length)).toArray hll (by omega) h4 (by
    simp only [List.size_toArray, List.length_append, List.length_take, List.length_drop, Array.length_toList]; omega) (by
    rw [hlen]
    simp only [List.toList_toArray]
    rw [Zdh, Zdh, rowsCells_take h1 (by omega), rowsCells_drop h1 hk, ← h6, hnl, List.take_take, Nat.min_eq_left (by omega), List.drop_take]
    rw [List.take_append, List.take_of_length_le (by simp only [List.length_append, List.length_take, Array.length_toList]; omega)]
    congr 1
    simp only [List.length_append, List.length_take, Array.length_toList, hnl]
    rw [Nat.min_eq_left (by omega), Nat.add_mul])
  rw [hlen] at this
  exact this
theorem X_storeO {t : TypeId} {x y : Operand} {b j sz c m l : Nat} {agg : Bool} {T : TypeId} {q : Segs} {v : Value} {hs : Hp} {rows : List Segs} (hi : ops[i]? = some ⟨Option.none, .store t x y, ty, pos, af, gd⟩) (hg : want ops e gd = some true)
    (hx : ev e x = some (eptr (some ⟨b, 0, Option.none⟩) j sz 0)) (hy : ev e y = some v) (hp : Parts v q) (hq : flat q) (hl : lay P t = some (agg, m)) (hn : Segs.len q = m) (hms : m = sz) (ho : OSl T sz (.slice (some ⟨b, 0, Option.none⟩) l c) hs rows) (hH : Rem hs H H0) (hj : j < rows.length)
    (hk : ∀ hs', OSl T sz (.slice (some ⟨b, 0, Option.none⟩) rows.length c) hs' (rows.set j q) → XD P n ops Q rest (St M (hs' ++ H0)) ⟨M, hs' ++ H0⟩ e) (hnw : n.wrs.contains i = false := by rfl) : XD P n ops Q (i :: rest) J ⟨M, H⟩ e := by
  subst hms
  refine Zgv hi rfl hg (fun a w ha hw => ?_) hnw
  obtain ⟨dd, it, hd, hit, hsz, hag⟩ := lay_spec hl
  obtain ⟨cur, rfl, rfl, hlr, hcap, hcm, hcs, htake⟩ := ho.inv
  have hst := hw.perm hH.perm
  have hb := hst.own b _ (List.mem_append_left _ (.head _))
  have hq1 : lens m [q] := fun r hr => by rw [List.mem_singleton.1 hr]; exact hn
  have hjl : j * m + m ≤ rows.length * m := by have := Nat.mul_le_mul_right m (show j + 1 ≤ rows.length from hj); rwa [Nat.add_mul, Nat.one_mul] at this
  have hrc : rows.length * m ≤ c * m := Nat.mul_le_mul_right _ hcap
  have hql : (Segs.cells q).length = m := by rw [Segs.cells_length, hn]
  have h2 := run_storeCells_at P b (j * m) T (Segs.cells q) 0 cur w hb (by omega) hq
  have ho' := rowSplice (T := T) (b := b) (k := j) hlr hq1 hcap hcm hcs htake (by simp; omega)
  have er : rows.take j ++ [q] ++ rows.drop (j + [q].length) = rows.set j q := by
    rw [List.set_eq_take_append_cons_drop, if_pos hj]; simp
  rw [er] at ho'
  simp only [rowsCells, List.append_nil] at ho'
  have hr : (Instr.storeAt t (.pointer (some ⟨b, 0 + (j * m + 0), Option.none⟩)) v).run P w = .ok () (w.setRow b (cur.toList.take (j * m) ++ Segs.cells q ++ cur.toList.drop (j * m + (Segs.cells q).length)).toArray) := by
    unfold Instr.storeAt
    rw [Sem.run_bind]
    show (Result.ok _ w).andThen _ = _
    rw [Result.andThen_ok]
    unfold storeVar
    rw [Sem.run_bind, run_sizeOf' hit, Result.andThen_ok]
    have hs : v.cells.size = it.size := by rw [hp.cells, hsz]; simp [Segs.cells_length, hn]
    simp only [hs, ne_eq, not_true_eq_false, if_false]
    rw [hp.cells, Nat.zero_add, Nat.add_zero]
    simpa using h2
  unfold Oper.does
  rw [eptr_some] at hx
  have : (execOp a.eval ⟨Option.none, .store t x y, ty, pos, af, gd⟩).run P w = .ok .skip (w.setRow b (cur.toList.take (j * m) ++ Segs.cells q ++ cur.toList.drop (j * m + (Segs.cells q).length)).toArray) := by
    simp only [execOp, ha.ev hx, ha.ev hy]
    rw [Zbk hr]; rfl
  rw [this]
  refine ⟨⟨M, _⟩, e, ?_, ha, hk _ ho'⟩
  exact hst.upd .head (setRow_heap w b cur _ T _ hb) (fun c hc x hx => by rw [setRow_other w b c _ hc]; exact hx) (SameIO.refl _)
theorem XD_perm (hp : H.Perm H') (h : XD P n ops Q rest (St M H') ⟨M, H'⟩ e) : XD P n ops Q rest (St M H) ⟨M, H⟩ e := by
  have e1 : St M H = St M H' := funext fun w => propext ⟨fun h => h.perm0 hp, fun h => h.perm0 hp.symm⟩
  intro hSJ a ha
  have := h (fun u hu => hu) a ha
  rw [e1]
  exact WD.perm (A := ⟨M, H'⟩) (A' := ⟨M, H⟩) rfl hp.symm this
theorem Zfk {α : Type} {f : α → Segs} {xs : List α} {t E sz by_ m c' : Nat} {z : Value} {x y : Operand} {v : Value} {a : Option Addr} {hs : Hp} {rows : List Segs} {ats : Array TypeId} (hi : ops[i]? = some ⟨some d, .call ⟨.builtin .append, #[x, y], ats⟩, ty, pos, af, gd⟩) (hg : want ops e gd = some true)
    (hx : ev e x = some v) (hy : ev e y = some (.slice a xs.length c')) (hat : ats = #[t, t]) (ht : slOf P t = some (E, sz, by_)) (hz : zeroOf P E = some z) (hzs : z.cells.size = sz) (hsz : Nat.ble 1 sz = true) (ho : OSl E sz v hs rows) (hH : Rem hs H H0)
    (hsrc : SlM M a (xs.map f) sz) (hf : ∀ x, flat (f x)) (hm : rows.length + xs.length ≤ m) (hbm : Nat.ble (m * (by_ + 1)) 140737488355328 = true) (hd : Nat.ble (d + 1) n.sz = true)
    (hk : ∀ v' hs', OSl E sz v' hs' (rows ++ xs.map f) → XD P n ops Q rest (St M (hs' ++ H0)) ⟨M, hs' ++ H0⟩ ((d, v') :: e)) (hnw : n.wrs.contains i = false := by rfl) : XD P n ops Q (i :: rest) J ⟨M, H⟩ e := by
  cases a with
  | some ad => exact Zdn hi hg hx hy hat ht hz hzs hsz ho hH (SlM.src hsrc (Zfi hf _) (List.length_map ..).symm) (by simpa using hm) hbm hd hk hnw
  | none =>
    have hl := hsrc.none_nil
    subst hl
    obtain ⟨a1, c1, rfl⟩ := ho.val
    obtain ⟨g1, _, _⟩ := ho.caps
    have hk' := hk _ _ (by simpa using ho)
    exact X_append_none hi hg hx hy hat ht g1 hd (XD_perm hH.perm hk') hnw
theorem OSl.valAt {T sz n : Nat} {v : Value} {hs : Hp} {rows : List Segs} (h : OSl T sz v hs rows) (hn : rows.length = n) : ∃ a c, v = .slice a n c := by
  obtain ⟨a, c, h1⟩ := h.val
  exact ⟨a, c, by rw [h1, hn]⟩
theorem OSl.as {T sz l l' c : Nat} {a : Option Addr} {hs : Hp} {rows : List Segs} (h : OSl T sz (.slice a l c) hs rows) (hl : l' = rows.length) : OSl T sz (.slice a l' c) hs rows := by
  obtain ⟨_, _, e⟩ := h.caps
  rw [hl, ← e]; exact h
theorem OSl.srcAll {T sz b l c : Nat} {hs : Hp} {rows : List Segs} (h : OSl T sz (.slice (some ⟨b, 0, Option.none⟩) l c) hs rows) (hH : Rem hs H H0) (h1 : ∀ u ∈ rowsCells rows, u.oneCell' = true) : Src M H sz (.slice (some ⟨b, 0, Option.none⟩) l c) rows := by
  obtain ⟨_, _, e⟩ := h.caps
  subst e
  have := OSl.src (M := M) (k := 0) (c' := c) h hH h1
  simpa using this
theorem flat_all {r : Segs} (h : flat r) : (aggV r).cells.all (fun u => u.oneCell') = true := by
  rw [Array.all_eq_true_iff_forall_mem]
  intro u hu
  exact h u (by simpa [aggV, Value.cells] using hu)
theorem OSl.someB {T sz l c : Nat} {a : Option Addr} {hs : Hp} {rows : List Segs} (h : OSl T sz (.slice a l c) hs rows) (hl : 0 < l) : ∃ b, a = some ⟨b, 0, Option.none⟩ := by
  generalize hv : Value.slice a l c = v at h
  cases h with
  | nil => cases hv; cases hl
  | own b c' _ cur g1 g2 g3 g4 g5 => cases hv; exact ⟨b, rfl⟩
theorem X_fhR2 {f : FuncId} {xs : List Operand} {ats : Array TypeId} {vs : List Value} {Hin Hin2 H1 Hr : Hp} {R : Mem → Value → Hp → Prop} {MJ : Mem} {HJ : Hp} (hi : ops[i]? = some ⟨dst, .call ⟨.value (.func f), xs.toArray, ats⟩, ty, pos, af, gd⟩) (hg : want ops e gd = some true)
    (hf : okFn P f = true) (hx : evs e xs = some vs) (hc : Fh P f vs M (Hin ++ Hin2) R) (hH : Rem Hin H H1) (hH2 : Rem Hin2 H1 Hr) (hJ : ∀ v M' Hout w, M.le M' → R M' v Hout → St M' (Hout ++ Hr) w → St MJ HJ w)
    (hd : ∀ a v, Sat n e a → Sat n (putE dst v e) (a.put dst v))
    (hk : ∀ v M' Hout, M.le M' → R M' v Hout → XD P n ops Q rest (St MJ HJ) ⟨M', Hout ++ Hr⟩ (putE dst v e)) : XD P n ops Q (i :: rest) (St MJ HJ) ⟨M, H⟩ e := by
  obtain ⟨fn, h1, h2, h3⟩ := Zft hf
  have hP : H.Perm ((Hin ++ Hin2) ++ Hr) := (hH.perm.trans (hH2.perm.append_left Hin)).trans (List.append_assoc _ _ _ ▸ List.Perm.refl _)
  refine X_effJ hi rfl hg (fun _ a F w ha hw => does_call h1 h2 h3 (by simpa using ha.evs hx) ?_)
  exact (hc (F ++ Hr) w (hw.perm0 ((hP.append_left F).trans (swapF F (Hin ++ Hin2) Hr)))).mono fun e' w' ⟨v, M', Hout, he, hm, hs, hr⟩ => ⟨v, he, ⟨M', Hout ++ Hr⟩, _, hs.perm0 (swapF F Hout Hr).symm, fun u hu => hJ v M' Hout u hm hr hu, hd a v ha, hk v M' Hout hm hr⟩
end
end Go.Esp
namespace Go.Esp
def fingerAt (l : List PeerV) (p : PeerV) (k : Nat) : Int := ((ownerI l (p.id + powP k) : Nat) : Int)
def fingersR (l : List PeerV) (i : Int) : List Int × Int := if h : IsCircle l ∧ 0 ≤ i ∧ i < l.length then ((List.range 160).map (fingerAt l (l[i.toNat]'(by omega))), 0) else ([], 1)
def fillL (f : Nat → Int) (k : Nat) : List Int := (List.range 160).map fun j => if j < k then f j else 0
def IntsE (M : Mem) (v : Value) (r : List Int × Int) : Prop := ∃ s : Sl Int, v = .tuple #[s.val, .int .i64 r.2] ∧ s.l = r.1 ∧ SlK M (oneI .i64) 1 s
def arcR (l : List PeerV) (i : Int) : Plc × Plc × Int := if h : IsCircle l ∧ 0 ≤ i ∧ i < l.length then ((l[(i.toNat + l.length - 1) % l.length]'(Nat.mod_lt _ (by have := h.1.1; omega))).id, (l[i.toNat]'(by omega)).id, 0) else (0, 0, 1)
def ofArc (r : Plc × Plc × Int) : Value := .tuple #[aggV [idSeg r.1], aggV [idSeg r.2.1], .int .i64 r.2.2]
end Go.Esp
namespace Go.Esp
def D (a b : Plc) : Nat := (b - a).toNat
section
variable {l : List PeerV}
def idN (l : List PeerV) (i : Nat) : Nat := match l[i]? with
  | some p => p.id.toNat
  | none => 0
end
end Go.Esp
namespace Go.Esp
def copiesR (l : List PeerV) (x : Plc) (r : Int) : List Int × Int := if IsCircle l ∧ 1 ≤ r ∧ r ≤ 8 then ((List.range (min r.toNat l.length)).map fun k => (((ownerI l x + k) % l.length : Nat) : Int), 0) else ([], 1)
theorem copiesR_yes {l : List PeerV} {x : Plc} {r : Nat} (h : IsCircle l) (h1 : 1 ≤ r) (h2 : r ≤ 8) : copiesR l x (r : Int) = ((List.range (min r l.length)).map fun k => (((ownerI l x + k) % l.length : Nat) : Int), 0) := by
  unfold copiesR
  rw [if_pos ⟨h, by omega, by omega⟩]
  simp only [Int.toNat_natCast]
theorem copiesR_no {l : List PeerV} {x : Plc} {r : Int} (h : ¬ (IsCircle l ∧ 1 ≤ r ∧ r ≤ 8)) : copiesR l x r = ([], 1) := if_neg h
def sansI (l : List PeerV) (i : Nat) : List PeerV := l.take i ++ l.drop (i + 1)
end Go.Esp
namespace Go.Esp
section
variable {P : Program} {n : Sh} {ops : Array Oper} {Q : Exit → Act → World → Prop} {rest : List Nat} {M M' : Mem} {H H' H0 : Hp} {e : Env} {J S : World → Prop} {A : As} {i : Nat}
  {dst : Option Tmp} {d : Tmp} {op : Op} {ty : TypeId} {pos : String} {af : Array Edge} {gd : Option (Nat × Bool)}
theorem X_min {x y : Operand} {p q r : Int} {ats : Array TypeId} (hi : ops[i]? = some ⟨some d, .call ⟨.builtin .min, #[x, y], ats⟩, ty, pos, af, gd⟩) (hg : want ops e gd = some true)
    (hx : ev e x = some (.int .i64 p)) (hy : ev e y = some (.int .i64 q)) (hr : (if q < p then q else p) = r) (hd : Nat.ble (d + 1) n.sz = true) (hk : XD P n ops Q rest J A ((d, .int .i64 r) :: e)) : XD P n ops Q (i :: rest) J A e :=
  Zgo hi rfl hg (fun a' w ha _ => Zec (by
    subst hr
    simp only [execOp, resolve]
    simp [invoke, builtin, Builtin.min_, Builtin.min2, ha.ev hx, ha.ev hy])) (fun a ha => ha.put hd _) hk
theorem X_cap_sl {t E sz by_ : Nat} {x : Operand} {a : Option Addr} {l c : Nat} {ats : Array TypeId} (hi : ops[i]? = some ⟨some d, .call ⟨.builtin .cap, #[x], ats⟩, ty, pos, af, gd⟩) (hg : want ops e gd = some true)
    (hx : ev e x = some (.slice a l c)) (hat : ats[0]? = some t) (ht : slOf P t = some (E, sz, by_)) (hd : Nat.ble (d + 1) n.sz = true) (hk : XD P n ops Q rest J A ((d, .int .i64 (c : Int)) :: e)) : XD P n ops Q (i :: rest) J A e :=
  Zgo hi rfl hg (fun a' w ha _ => Zec (by
    obtain ⟨it, hu, _⟩ := Zfd ht
    simp only [execOp, resolve]
    simp [invoke, builtin, Builtin.cap_, ha.ev hx, hat, run_underlying hu, goInt])) (fun a ha => ha.put hd _) hk
theorem C_cutX {α : Type} {c rest : Code} (pre : α → Env) (F : α → Prop) {e0 : Env} (hp : Pick e e0)
    (h1 : C P n c (Exit.then (fun a w => ∃ x, F x ∧ Sat n (pre x ++ e0) a ∧ S w) Q) S e) (h2 : ∀ x, F x → C P n rest Q S (pre x ++ e0)) :
    C P n c (Exit.then (rest.wpIn (Fr n.ro) 0 P Q) Q) S e := by
  intro a w ha hw
  refine wpIn_mono (h1 a w ha hw) fun x a' w' hx => ?_
  cases x with
  | normal =>
    obtain ⟨x, hF, hs, hw2⟩ := hx
    exact h2 x hF a' w' hs hw2
  | _ => exact hx
theorem K_cutX {α : Type} {S' : World → Prop} {pre : α → Env} {F : α → Prop} {e0 e1 : Env} (x : α) (hF : F x) (hp : Pick e1 (pre x ++ e0)) (hS : ∀ w, S' w → S w) :
    K n (Exit.then (fun a w => ∃ x, F x ∧ Sat n (pre x ++ e0) a ∧ S w) Q) .normal S' e1 := fun a w ha hw => ⟨x, hF, ha.pick hp, hS w hw⟩
end
end Go.Esp
namespace Go.Proofs.YtpkeilhilpogiaaGreat
open Go.Esp
theorem F.elem27 : slOf Tryz.prog 27 = some (80, 21, 32) := by kernel_rfl
theorem F.elem52 : slOf Tryz.prog 52 = some (3, 1, 8) := by kernel_rfl
theorem F.foff80_0 : foff Tryz.prog 80 0 = some 0 := by kernel_rfl
theorem F.foff80_1 : foff Tryz.prog 80 1 = some 1 := by kernel_rfl
theorem F.lay27 : lay Tryz.prog 27 = some (false, 1) := by kernel_rfl
theorem F.lay29 : lay Tryz.prog 29 = some (true, 20) := by kernel_rfl
theorem F.lay3 : lay Tryz.prog 3 = some (false, 1) := by kernel_rfl
theorem F.lay80 : lay Tryz.prog 80 = some (true, 21) := by kernel_rfl
theorem F.ok107 : okFn Tryz.prog 107 = true := by kernel_rfl
theorem F.ok108 : okFn Tryz.prog 108 = true := by kernel_rfl
theorem F.ok23 : okFn Tryz.prog 23 = true := by kernel_rfl
theorem F.ok28 : okFn Tryz.prog 28 = true := by kernel_rfl
theorem F.ok37 : okFn Tryz.prog 37 = true := by kernel_rfl
theorem F.ok40 : okFn Tryz.prog 40 = true := by kernel_rfl
theorem F.ok51 : okFn Tryz.prog 51 = true := by kernel_rfl
theorem F.ok69 : okFn Tryz.prog 69 = true := by kernel_rfl
theorem F.ok86 : okFn Tryz.prog 86 = true := by kernel_rfl
theorem F.ok87 : okFn Tryz.prog 87 = true := by kernel_rfl
theorem F.zero3 : zeroOf Tryz.prog 3 = some ((.int .i64 0)) := by kernel_rfl
theorem F.zero80 : zeroOf Tryz.prog 80 = some (aggV [.one (.int .i64 0), idSeg 0]) := by rw [idSeg0]; kernel_rfl
theorem IndexI_rd (M : Mem) (Hin : Hp) (l : Sl Int) (x : Int) (hl : RdS M Hin l.a (l.l.map (oneI .i64)) 1) (bl : l.l.length ≤ 9223372036854775807) : Fo Tryz.prog 86 [l.val, .int .i64 x] M Hin (fun M' v => M' = M ∧ v = .int .i64 (idxI x l.l)) := by
  have nl : (l.l.map (oneI .i64)).length = l.l.length := List.length_map ..
  refine Zfq Tryz.func86 rfl Tryz.ntmps86 rfl ?_; intro H
  have hrd := hl.app H
  refine Zj ?_; refine Za (l := [0]) rfl ?_; refine Zd ?_; refine Ze ?_; refine Zc ?_
  iterate 2 refine Zj ?_
  refine Za (l := [0, 1, 2]) rfl ?_; refine Zf ?_; refine Zbb F.elem52 ?_; refine Zf ?_; refine Ze ?_; refine Zc ?_; refine Y_pk [8, 7, 4, 0, 1] ?_; refine Zbe ?_; refine Y_pk [8, 7, 4, 0, 1] ?_; refine Zed (.succ .zero) (fun (k : Nat) z => z = [(8, .int .i64 (k : Int))] ∧ k ≤ l.l.length ∧ (x ∉ l.l.take k)) (fun k => l.l.length - k) (0) (⟨rfl, by omega, by simp⟩) ?_
  rintro k _ ⟨rfl, hk, hI⟩
  refine Zj ?_; refine Za (l := [0]) rfl ?_; refine Zav ?_; refine Ze ?_; refine Zc ?_; refine Zj ?_
  refine Zau rfl (fun hc1 => ?_) (fun hc1 => ?_)
  ·replace hc1 := dT hc1
   refine Zax ?_; refine Zc ?_; refine Zj ?_; refine Zbe ?_; refine Zj ?_; refine Za (l := [0, 1]) rfl ?_; refine Zf ?_; refine Zd ?_; refine Ze ?_; refine Zc ?_; refine Zj ?_; refine Za (l := [0, 1, 2, 3, 4, 5]) rfl ?_
   iterate 3 refine Zf ?_
   refine Zaa rfl rfl rfl rfl F.elem52 (by rfl) (by omega) (by exact RdS.plain (by assumption) (by (simp; omega))) rfl ?_; refine X_load_rd rfl rfl rfl (by assumption) (by exact Zbl (by omega)) F.lay3 rfl rfl rfl ?_; refine Zav ?_; refine Ze ?_; refine Zc ?_
   refine Zau rfl (fun hc2 => ?_) (fun hc2 => ?_)
   ·replace hc2 := dT hc2
    refine Zj ?_; refine Za (l := [0, 1]) rfl ?_; refine Zf ?_; refine Zd ?_; refine Ze ?_; refine Zc ?_; refine Zak ?_; refine Zbj ?_
    iterate 2 refine Zba ?_
    refine Zbj ?_; refine Zba ?_
    refine Zaj (.inr rfl) (.tmp rfl .nil) (fun w hw => ?_)
    refine ⟨_, M, rfl, Mem.le.refl M, hw.c, rfl, ?_⟩
    refine congrArg (Value.int .i64) ?_
    exact (idxI_at (by omega) hI (by assumption)).symm
   ·replace hc2 := dF hc2
    refine Zax ?_; refine Zde ?_; refine Zc ?_; refine Za (l := [0, 1]) rfl ?_; refine Zcc rfl rfl rfl rfl rfl (by exact Zbf (by decide) (by omega)) rfl ?_; refine Zf ?_; refine Ze ?_; refine Zda (a' := [(8, _)]) (k + 1) (.cons (k := 8) rfl (.cons (k := 7) rfl (.cons (k := 4) rfl (.cons (k := 0) rfl (.cons (k := 1) rfl (.nil)))))) (fun w hw => by first | exact hw | exact hw.c) ?_ ?_
    ·refine ⟨rfl, by omega, ?_⟩
     exact not_take_succ (by omega) hI (by assumption)
    ·omega
  ·replace hc1 := dF hc1
   refine Zcm ?_
   iterate 2 refine Zcd ?_
   refine Zdl ?_; refine Zc ?_; refine Y_pk [4] ?_; refine Zj ?_; refine Za (l := [0]) rfl ?_; refine Zd ?_; refine Ze ?_; refine Zc ?_; refine Zak ?_
   refine Zaj (.inr rfl) (.tmp rfl .nil) (fun w hw => ?_)
   refine ⟨_, M, rfl, Mem.le.refl M, hw.c, rfl, ?_⟩
   refine congrArg (Value.int .i64) ?_
   (have hk9 : k = l.l.length := (by omega); subst hk9; rw [List.take_length] at hI; exact (idxI_none hI).symm)
theorem ContainsI_rd (M : Mem) (Hin : Hp) (l : Sl Int) (x : Int) (hl : RdS M Hin l.a (l.l.map (oneI .i64)) 1) (bl : l.l.length ≤ 9223372036854775807) : Fo Tryz.prog 51 [l.val, .int .i64 x] M Hin (fun M' v => M' = M ∧ v = .bool (decide (x ∈ l.l))) := by
  refine Zfq Tryz.func51 rfl Tryz.ntmps51 rfl ?_; intro H
  refine Zj ?_; refine Za (l := [0]) rfl ?_; refine Zd ?_; refine Ze ?_; refine Zc ?_; refine Zj ?_; refine Za (l := [0, 1, 2, 3, 4]) rfl ?_
  iterate 2 refine Zf ?_
  refine X_fo rfl rfl F.ok86 rfl (IndexI_rd _ Hin ⟨_, _, _⟩ _ hl bl) (by repeat first | exact Rem.here _ | exact Rem.two | apply Rem.skip | apply Rem.over) (Zbq rfl) ?_
  rintro _ M1 _ ⟨hM1, rfl⟩; subst M1
  refine Zav ?_; refine Zd ?_; refine Ze ?_; refine Zc ?_; refine Y_pk [4] ?_; refine Zak ?_
  refine Zaj (.inr rfl) (.tmp rfl .nil) (fun w hw => ?_)
  exact ⟨_, M, rfl, Mem.le.refl M, hw.c, rfl, congrArg Value.bool (by simp [idxI_nn])⟩
theorem Circ_ok (M : Mem) (l : (Sl PeerV)) (hl0 : SlK M PeerV.segs 21 l) : Fs Tryz.prog 23 [Sl.val l] M (fun v => v = Value.bool (decide (IsCircle l.l))) := by
  obtain ⟨l_a, l_c, l_l⟩ := l
  have k_l : SlK M PeerV.segs 21 ⟨l_a, l_c, l_l⟩ := hl0
  have s_l : SlM M l_a (l_l.map PeerV.segs) 21 := k_l.h1
  have n_l : (l_l.map PeerV.segs).length = l_l.length := List.length_map ..
  have m_l : l_l.length ≤ 9223372036854775807 := k_l.h2
  have c_l : l_l.length ≤ l_c := k_l.h3
  refine Zci Tryz.func23 rfl Tryz.ntmps23 rfl ?_; intro H
  refine Zj ?_; refine Za (l := [0]) rfl ?_; refine Zd ?_; refine Ze ?_; refine Zc ?_
  iterate 2 refine Zj ?_
  refine Za (l := [0, 1, 2, 3, 4, 5, 6, 7]) rfl ?_; refine Zf ?_; refine Zbb F.elem27 ?_; refine Zav ?_; refine Zf ?_
  refine Zag 9 rfl (fun hc1 => ?_) (fun hc1 => ?_)
  ·replace hc1 := dT hc1
   iterate 3 refine Zz ?_
   refine Zl ?_; refine Ze ?_; refine Zc ?_; refine Y_pk [13, 2, 0] ?_; refine Zcy rfl ?_; refine Zj ?_; refine Za (l := [0]) rfl ?_; refine Zd ?_; refine Ze ?_; refine Zc ?_; refine Y_pk [2, 0] ?_; refine Zak ?_; refine Zba ?_
   refine Zaj (.inr rfl) (.tmp rfl .nil) (fun w hw => ?_)
   refine ⟨_, rfl, (hw.c), ?_⟩
   clear hw
   refine congrArg Value.bool ?_
   grind [IsCircle]
  ·replace hc1 := dF hc1
   refine Zf ?_; refine Zbb F.elem27 ?_; refine Zav ?_; refine Zl ?_; refine Ze ?_; refine Zc ?_; refine Y_pk [13, 2, 0] ?_
   refine Zau rfl (fun hc2 => ?_) (fun hc2 => ?_)
   ·replace hc2 := dT hc2
    refine Zj ?_; refine Za (l := [0]) rfl ?_; refine Zd ?_; refine Ze ?_; refine Zc ?_; refine Y_pk [2, 0] ?_; refine Zak ?_; refine Zba ?_
    refine Zaj (.inr rfl) (.tmp rfl .nil) (fun w hw => ?_)
    refine ⟨_, rfl, (hw.c), ?_⟩
    clear hw
    refine congrArg Value.bool ?_
    grind [IsCircle]
   ·replace hc2 := dF hc2
    refine Zax ?_; refine Zc ?_; refine Y_pk [2, 0] ?_; refine Zj ?_; refine Za (l := [0]) rfl ?_; refine Zd ?_; refine Ze ?_; refine Zc ?_
    iterate 2 refine Zj ?_
    refine Za (l := [0, 1, 2]) rfl ?_; refine Zf ?_; refine Zbb F.elem27 ?_; refine Zf ?_; refine Ze ?_; refine Zc ?_; refine Zbe ?_; refine Y_pk [16, 3, 15, 14, 2, 0] ?_; refine Zeo (Hin := []) (.succ (.succ .zero)) (by repeat first | exact Rem.here _ | exact Rem.two | apply Rem.skip | apply Rem.over) (fun (k : Nat) M1 h1 z => ∃ v, M1 = M ∧ z = [(16, .int .i64 (k : Int)), (3, v)] ∧ k ≤ l_l.length ∧ CircOk (l_l.take k) ∧ OSl 3 1 v h1 (((l_l.take k).map PeerV.addr).map (oneI .i64))) (fun k => l_l.length - k) (0) (⟨_, rfl, rfl, by omega, by simp [CircOk], OSl.nil⟩) ?_
    rintro k M1 h1 z hm1 ⟨v1, hM1, rfl, hk, hI, ho⟩
    subst hM1
    obtain ⟨ad1, cp1, rfl⟩ := ho.valL
    have hlk : (l_l.take k).length = k := by rw [List.length_take]; omega
    have hlm : (((l_l.take k).map PeerV.addr).map (oneI .i64)).length = k := by simp; omega
    refine Zj ?_; refine Za (l := [0]) rfl ?_; refine Zav ?_; refine Ze ?_; refine Zc ?_; refine Zj ?_
    refine Zau rfl (fun hc3 => ?_) (fun hc3 => ?_)
    ·replace hc3 := dT hc3
     refine Zax ?_; refine Zc ?_; refine Zj ?_; refine Zbe ?_; refine Zj ?_; refine Za (l := [0, 1, 2, 3, 4, 5]) rfl ?_; refine Zf ?_; refine Zaa rfl rfl rfl rfl F.elem27 (by rfl) (by omega) (by exact SlM.plain (by assumption) (by (simp; omega))) rfl ?_; refine Zay rfl rfl rfl (by assumption) (by exact Zbl (by omega)) F.lay80 rfl rfl rfl ?_
     refine Zby F.zero80 ?_; intro b4
     refine Zd ?_; refine Zas F.lay80 ?_; refine Ze ?_; refine Zc ?_
     iterate 2 refine Zj ?_
     refine Zar (l := [0, 1, 2, 3, 4, 5, 6, 7, 8, 9, 10, 11, 12, 13, 14, 15, 16, 17, 18, 19, 20, 21, 22, 23, 24, 25, 26, 27, 28, 29]) #[0, 1, 3, 7, 15, 31, 63, 127, 255, 511, 511, 1535, 4095, 8191, 16383, 32767, 65535, 131071, 262143, 262143, 786431, 2097151, 4194303, 8388607, 262143, 17039359, 67108863, 134217727, 268435455, 536870911] _ rfl (by kernel_rfl) (by kernel_rfl) St.drawn (fun _ h => h) ?_; refine Zb F.foff80_0 ?_; refine Zi F.lay3 ?_; refine Zav ?_; refine Zf ?_
     refine Zag 24 rfl (fun hc5 => ?_) (fun hc5 => ?_)
     ·replace hc5 := dT hc5
      simp only [List.get_eq_getElem] at hc5
      iterate 3 refine Zz ?_
      refine Zl ?_; refine Zf ?_
      iterate 4 refine Zz ?_
      refine Zl ?_; refine Zf ?_
      iterate 14 refine Zz ?_
      refine Zl ?_; refine Ze ?_; refine Zc ?_; refine Zcy rfl ?_; refine Zj ?_; refine Za (l := [0]) rfl ?_; refine Zd ?_; refine Ze ?_; refine Zc ?_; refine Zak ?_; refine Zba ?_; refine Zbj ?_
      iterate 2 refine Zba ?_
      refine Zbj ?_; refine Zba ?_
      refine Zaj (.inr rfl) (.tmp rfl .nil) (fun w hw => ?_)
      refine ⟨_, rfl, (hw.c), ?_⟩
      clear hw
      refine congrArg Value.bool ?_
      (have hd := Zfo (l := l_l) (k := k) (by omega); have hp := circ_pre (l := l_l); grind [IsCircle])
     ·replace hc5 := dF hc5
      simp only [List.get_eq_getElem] at hc5
      refine Zb F.foff80_0 ?_; refine Zi F.lay3 ?_; refine Zav ?_; refine Zl ?_; refine Zf ?_
      refine Zag 29 rfl (fun hc6 => ?_) (fun hc6 => ?_)
      ·replace hc6 := dT hc6
       simp only [List.get_eq_getElem] at hc6
       iterate 4 refine Zz ?_
       refine Zl ?_; refine Zf ?_
       iterate 14 refine Zz ?_
       refine Zl ?_; refine Ze ?_; refine Zc ?_; refine Zcy rfl ?_; refine Zj ?_; refine Za (l := [0]) rfl ?_; refine Zd ?_; refine Ze ?_; refine Zc ?_; refine Zak ?_; refine Zba ?_; refine Zbj ?_
       iterate 2 refine Zba ?_
       refine Zbj ?_; refine Zba ?_
       refine Zaj (.inr rfl) (.tmp rfl .nil) (fun w hw => ?_)
       refine ⟨_, rfl, (hw.c), ?_⟩
       clear hw
       refine congrArg Value.bool ?_
       (have hd := Zfo (l := l_l) (k := k) (by omega); have hp := circ_pre (l := l_l); grind [IsCircle])
      ·replace hc6 := dF hc6
       simp only [List.get_eq_getElem] at hc6
       refine Zf ?_; refine Zb F.foff80_0 ?_; refine Zi F.lay3 ?_; refine X_fo rfl rfl F.ok51 rfl (ContainsI_rd _ h1 ⟨ad1, cp1, (l_l.take k).map PeerV.addr⟩ _ (ho.rd _) (by simp; omega)) (by repeat first | exact Rem.here _ | exact Rem.two | apply Rem.skip | apply Rem.over) (Zbq rfl) ?_
       rintro _ M1 _ ⟨hM1, rfl⟩; subst M1
       refine Zl ?_; refine Zf ?_
       refine Zag 35 rfl (fun hc7 => ?_) (fun hc7 => ?_)
       ·replace hc7 := dT hc7
        simp only [AnswerV.eta, MarkV.eta, CellV.eta, HeldV.eta, WaitV.eta, ServerV.eta, PeerV.eta, OpV.eta, ParcelV.eta, PostV.eta, WorkerV.eta] at hc7
        simp only [List.get_eq_getElem] at hc7
        iterate 14 refine Zz ?_
        refine Zl ?_; refine Ze ?_; refine Zc ?_; refine Zcy rfl ?_; refine Zj ?_; refine Za (l := [0]) rfl ?_; refine Zd ?_; refine Ze ?_; refine Zc ?_; refine Zak ?_; refine Zba ?_; refine Zbj ?_
        iterate 2 refine Zba ?_
        refine Zbj ?_; refine Zba ?_
        refine Zaj (.inr rfl) (.tmp rfl .nil) (fun w hw => ?_)
        refine ⟨_, rfl, (hw.c), ?_⟩
        clear hw
        refine congrArg Value.bool ?_
        (have hd := Zfo (l := l_l) (k := k) (by omega); have hp := circ_pre (l := l_l); grind [IsCircle])
       ·replace hc7 := dF hc7
        simp only [AnswerV.eta, MarkV.eta, CellV.eta, HeldV.eta, WaitV.eta, ServerV.eta, PeerV.eta, OpV.eta, ParcelV.eta, PostV.eta, WorkerV.eta] at hc7
        simp only [List.get_eq_getElem] at hc7
        refine Zf ?_; refine Zav ?_; refine Zf ?_
        refine Zag 38 rfl (fun hc8 => ?_) (fun hc8 => ?_)
        ·replace hc8 := dT hc8
         iterate 2 refine Zf ?_
         refine Zcc rfl rfl rfl rfl rfl (by exact Zbf (by decide) (by omega)) rfl ?_; refine Zaa rfl rfl rfl rfl F.elem27 (by exact (Int.toNat_of_nonneg (by omega)).symm) (by omega) (by exact SlM.plain (by assumption) (by (simp; omega))) rfl ?_; refine Zaq rfl rfl rfl (by exact SlM.plain (by assumption) (by (simp; omega))) F.foff80_1 rfl ?_; refine Zay rfl rfl rfl (by assumption) (by exact Zbl (by omega)) F.lay29 rfl rfl rfl ?_; refine Zb F.foff80_1 ?_; refine Zi F.lay29 ?_; refine X_fs rfl rfl F.ok37 rfl (Less_ok _ _ _) rfl ?_
         rintro _ rfl
         refine Zel ?_
         iterate 2 refine Zl ?_
         refine Ze ?_; refine Zc ?_
         refine Zau rfl (fun hc9 => ?_) (fun hc9 => ?_)
         ·replace hc9 := nT hc9
          simp only [List.get_eq_getElem] at hc9
          refine Zj ?_; refine Za (l := [0]) rfl ?_; refine Zd ?_; refine Ze ?_; refine Zc ?_; refine Zak ?_; refine Zba ?_; refine Zbj ?_
          iterate 2 refine Zba ?_
          refine Zbj ?_; refine Zba ?_
          refine Zaj (.inr rfl) (.tmp rfl .nil) (fun w hw => ?_)
          refine ⟨_, rfl, (hw.c), ?_⟩
          clear hw
          refine congrArg Value.bool ?_
          (have hd := Zfo (l := l_l) (k := k) (by omega); have hp := circ_pre (l := l_l); grind [IsCircle])
         ·replace hc9 := nF hc9
          simp only [List.get_eq_getElem] at hc9
          refine Zax ?_; refine Zc ?_; refine Za (l := [0, 1, 2, 3, 4, 5]) rfl ?_; refine Zf ?_; refine Zb F.foff80_0 ?_; refine Zi F.lay3 ?_
          refine Zbt rfl rfl F.elem52 F.zero3 rfl rfl (.cons rfl (by constructor) .nil) rfl rfl (by simp only [List.map_cons, List.map_nil] <;> rfl) rfl ?_; intro b10 hob11
          refine Zdn (m := 1000000) rfl rfl rfl rfl rfl F.elem52 F.zero3 (by rfl) rfl (by assumption) (by repeat first | exact Rem.here _ | exact Rem.two | apply Rem.skip | apply Rem.over) (Src.own hob11.lens (by (refine Zdy ?_; (repeat (first | exact Zbp | refine Zcb ?_ | (refine Zam ?_ ?_; rfl))); done)) rfl (by repeat first | exact List.Mem.head _ | refine List.Mem.tail _ ?_ | refine List.mem_append_right _ ?_)) (by (simp; omega)) (by decide) rfl ?_; intro v14 hs13 ho12; obtain ⟨adv14, cpv14, rfl⟩ := ho12.val
          refine Zd ?_; refine Ze ?_; refine Zde ?_; refine Zc ?_; refine Za (l := [0, 1]) rfl ?_; refine Zcc rfl rfl rfl rfl rfl (by exact Zbf (by decide) (by omega)) rfl ?_; refine Zf ?_; refine Ze ?_; refine Zcr (a' := [(16, _), (3, _)]) (k + 1) (hs13) (.cons (k := 16) rfl (.cons (k := 3) rfl (.cons (k := 15) rfl (.cons (k := 14) rfl (.cons (k := 2) rfl (.cons (k := 0) rfl (.nil))))))) (by exact Mem.le.refl _) (fun w hw => by first | exact hw | exact hw.c) ?_ ?_
          ·refine ⟨_, rfl, rfl, by omega, ?_, ?_⟩
           ·have hd := Zfo (l := l_l) (k := k) (by omega); grind
           ·have e9 : (((l_l.take (k + 1)).map PeerV.addr).map (oneI .i64)) = (((l_l.take k).map PeerV.addr).map (oneI .i64)) ++ [oneI .i64 l_l[k].addr] := by rw [take_map_succ _ (by omega), List.map_append]; rfl
            rw [e9]; assumption
          ·omega
        ·replace hc8 := dF hc8
         iterate 10 refine Zz ?_
         iterate 2 refine Zl ?_
         refine Ze ?_; refine Zc ?_; refine Zeu rfl ?_; refine Zax ?_; refine Zc ?_; refine Za (l := [0, 1, 2, 3, 4, 5]) rfl ?_; refine Zf ?_; refine Zb F.foff80_0 ?_; refine Zi F.lay3 ?_
         refine Zbt rfl rfl F.elem52 F.zero3 rfl rfl (.cons rfl (by constructor) .nil) rfl rfl (by simp only [List.map_cons, List.map_nil] <;> rfl) rfl ?_; intro b15 hob16
         refine Zdn (m := 1000000) rfl rfl rfl rfl rfl F.elem52 F.zero3 (by rfl) rfl (by assumption) (by repeat first | exact Rem.here _ | exact Rem.two | apply Rem.skip | apply Rem.over) (Src.own hob16.lens (by (refine Zdy ?_; (repeat (first | exact Zbp | refine Zcb ?_ | (refine Zam ?_ ?_; rfl))); done)) rfl (by repeat first | exact List.Mem.head _ | refine List.Mem.tail _ ?_ | refine List.mem_append_right _ ?_)) (by (simp; omega)) (by decide) rfl ?_; intro v19 hs18 ho17; obtain ⟨adv19, cpv19, rfl⟩ := ho17.val
         refine Zd ?_; refine Ze ?_; refine Zde ?_; refine Zc ?_; refine Za (l := [0, 1]) rfl ?_; refine Zcc rfl rfl rfl rfl rfl (by exact Zbf (by decide) (by omega)) rfl ?_; refine Zf ?_; refine Ze ?_; refine Zcr (a' := [(16, _), (3, _)]) (k + 1) (hs18) (.cons (k := 16) rfl (.cons (k := 3) rfl (.cons (k := 15) rfl (.cons (k := 14) rfl (.cons (k := 2) rfl (.cons (k := 0) rfl (.nil))))))) (by exact Mem.le.refl _) (fun w hw => by first | exact hw | exact hw.c) ?_ ?_
         ·refine ⟨_, rfl, rfl, by omega, ?_, ?_⟩
          ·have hd := Zfo (l := l_l) (k := k) (by omega); grind
          ·have e9 : (((l_l.take (k + 1)).map PeerV.addr).map (oneI .i64)) = (((l_l.take k).map PeerV.addr).map (oneI .i64)) ++ [oneI .i64 l_l[k].addr] := by rw [take_map_succ _ (by omega), List.map_append]; rfl
           rw [e9]; assumption
         ·omega
    ·replace hc3 := dF hc3
     refine Zcm ?_
     iterate 2 refine Zcd ?_
     refine Zdl ?_; refine Zc ?_; refine Y_pk [2] ?_; refine Zj ?_; refine Za (l := [0]) rfl ?_; refine Zd ?_; refine Ze ?_; refine Zc ?_; refine Zak ?_
     refine Zaj (.inr rfl) (.tmp rfl .nil) (fun w hw => ?_)
     refine ⟨_, rfl, (hw.c), ?_⟩
     clear hw
     refine congrArg Value.bool ?_
     (have hk9 : k = l_l.length := (by omega); subst hk9; grind [IsCircle, List.take_length])
theorem rCirc_ok (M : Mem) (l : (Sl PeerV)) (hl0 : SlK M PeerV.segs 21 l) : Fs Tryz.prog 28 [Sl.val l] M (fun v => v = Value.bool (decide (IsCircle l.l))) := by
  obtain ⟨l_a, l_c, l_l⟩ := l
  have k_l : SlK M PeerV.segs 21 ⟨l_a, l_c, l_l⟩ := hl0
  have s_l : SlM M l_a (l_l.map PeerV.segs) 21 := k_l.h1
  have n_l : (l_l.map PeerV.segs).length = l_l.length := List.length_map ..
  have m_l : l_l.length ≤ 9223372036854775807 := k_l.h2
  have c_l : l_l.length ≤ l_c := k_l.h3
  refine Zci Tryz.func28 rfl Tryz.ntmps28 rfl ?_; intro H
  refine Zj ?_; refine Za (l := [0]) rfl ?_; refine Zd ?_; refine Ze ?_; refine Zc ?_
  iterate 2 refine Zj ?_
  refine Za (l := [0, 1, 2, 3, 4, 5, 6, 7]) rfl ?_; refine Zf ?_; refine Zbb F.elem27 ?_; refine Zav ?_; refine Zf ?_
  refine Zag 8 rfl (fun hc1 => ?_) (fun hc1 => ?_)
  ·replace hc1 := dT hc1
   iterate 3 refine Zz ?_
   refine Zl ?_; refine Ze ?_; refine Zc ?_; refine Y_pk [12, 2, 0] ?_; refine Zcy rfl ?_; refine Zj ?_; refine Za (l := [0]) rfl ?_; refine Zd ?_; refine Ze ?_; refine Zc ?_; refine Y_pk [2, 0] ?_; refine Zak ?_; refine Zba ?_
   refine Zaj (.inr rfl) (.tmp rfl .nil) (fun w hw => ?_)
   refine ⟨_, rfl, (hw.c), ?_⟩
   clear hw
   refine congrArg Value.bool ?_
   grind [IsCircle]
  ·replace hc1 := dF hc1
   refine Zf ?_; refine Zbb F.elem27 ?_; refine Zav ?_; refine Zl ?_; refine Ze ?_; refine Zc ?_; refine Y_pk [12, 2, 0] ?_
   refine Zau rfl (fun hc2 => ?_) (fun hc2 => ?_)
   ·replace hc2 := dT hc2
    refine Zj ?_; refine Za (l := [0]) rfl ?_; refine Zd ?_; refine Ze ?_; refine Zc ?_; refine Y_pk [2, 0] ?_; refine Zak ?_; refine Zba ?_
    refine Zaj (.inr rfl) (.tmp rfl .nil) (fun w hw => ?_)
    refine ⟨_, rfl, (hw.c), ?_⟩
    clear hw
    refine congrArg Value.bool ?_
    grind [IsCircle]
   ·replace hc2 := dF hc2
    refine Zax ?_; refine Zc ?_; refine Y_pk [2, 0] ?_
    iterate 2 refine Zj ?_
    refine Za (l := [0]) rfl ?_; refine Zd ?_; refine Ze ?_; refine Zc ?_; refine Zbe ?_; refine Y_pk [3, 2, 0] ?_; refine Zed (.succ .zero) (fun (k : Nat) z => z = [(3, .int .i64 (k : Int))] ∧ k ≤ l_l.length ∧ ((1 ≤ l_l.length ∧ l_l.length ≤ 16) ∧ CircOk (l_l.take k))) (fun k => l_l.length - k) (0) (⟨rfl, by omega, by (refine ⟨by omega, ?_⟩; simp [CircOk])⟩) ?_
    rintro k _ ⟨rfl, hk, hI⟩
    have hlk : (l_l.take k).length = k := by rw [List.length_take]; omega
    iterate 2 refine Zj ?_
    refine Za (l := [0, 1, 2, 3]) rfl ?_
    iterate 2 refine Zf ?_
    refine Zbb F.elem27 ?_; refine Zav ?_; refine Ze ?_; refine Zc ?_
    refine Zau rfl (fun hc3 => ?_) (fun hc3 => ?_)
    ·replace hc3 := dT hc3
     refine Zax ?_; refine Zc ?_; refine Zj ?_; refine Zbe ?_
     iterate 2 refine Zj ?_
     refine Zar (l := [0, 1, 2, 3, 4, 5, 6, 7, 8, 9, 10, 11, 12, 13, 14, 15, 16, 17, 18, 19, 20, 21, 22, 23, 24, 25, 26, 27, 28, 29, 30, 31, 32]) #[0, 0, 3, 7, 15, 31, 63, 127, 127, 511, 1023, 2047, 4095, 8191, 16383, 32767, 65535, 131071, 262143, 262143, 786431, 2097151, 4194303, 8388607, 262143, 262143, 50593791, 117702655, 251920383, 536870911, 1073741823, 2147483647, 4294967295] _ rfl (by kernel_rfl) (by kernel_rfl) St.drawn (fun _ h => h) ?_
     iterate 2 refine Zf ?_
     refine Zaa rfl rfl rfl rfl F.elem27 (by rfl) (by omega) (by exact SlM.plain (by assumption) (by (simp; omega))) rfl ?_; refine Zaq rfl rfl rfl (by exact SlM.plain (by assumption) (by (simp; omega))) F.foff80_0 rfl ?_; refine Zay rfl rfl rfl (by assumption) (by exact Zbl (by omega)) F.lay3 rfl rfl rfl ?_; refine Zav ?_; refine Zf ?_
     refine Zag 25 rfl (fun hc4 => ?_) (fun hc4 => ?_)
     ·replace hc4 := dT hc4
      simp only [List.get_eq_getElem] at hc4
      iterate 6 refine Zz ?_
      refine Zl ?_; refine Zf ?_
      iterate 17 refine Zz ?_
      refine Zl ?_; refine Ze ?_; refine Zc ?_; refine Zcy rfl ?_; refine Zj ?_; refine Za (l := [0]) rfl ?_; refine Zd ?_; refine Ze ?_; refine Zc ?_; refine Zak ?_; refine Zba ?_; refine Zbj ?_
      iterate 2 refine Zba ?_
      refine Zbj ?_; refine Zba ?_
      refine Zaj (.inr rfl) (.tmp rfl .nil) (fun w hw => ?_)
      refine ⟨_, rfl, (hw.c), ?_⟩
      clear hw
      refine congrArg Value.bool ?_
      (have hd := Zfo (l := l_l) (k := k) (by omega); have hp := circ_pre (l := l_l); grind [IsCircle, mem_map_take])
     ·replace hc4 := dF hc4
      simp only [List.get_eq_getElem] at hc4
      iterate 2 refine Zf ?_
      refine Zaa rfl rfl rfl rfl F.elem27 (by rfl) (by omega) (by exact SlM.plain (by assumption) (by (simp; omega))) rfl ?_; refine Zaq rfl rfl rfl (by exact SlM.plain (by assumption) (by (simp; omega))) F.foff80_0 rfl ?_; refine Zay rfl rfl rfl (by assumption) (by exact Zbl (by omega)) F.lay3 rfl rfl rfl ?_; refine Zav ?_; refine Zl ?_; refine Zf ?_
      refine Zag 33 rfl (fun hc5 => ?_) (fun hc5 => ?_)
      ·replace hc5 := dT hc5
       simp only [List.get_eq_getElem] at hc5
       iterate 17 refine Zz ?_
       refine Zl ?_; refine Ze ?_; refine Zc ?_; refine Zcy rfl ?_; refine Zj ?_; refine Za (l := [0]) rfl ?_; refine Zd ?_; refine Ze ?_; refine Zc ?_; refine Zak ?_; refine Zba ?_; refine Zbj ?_
       iterate 2 refine Zba ?_
       refine Zbj ?_; refine Zba ?_
       refine Zaj (.inr rfl) (.tmp rfl .nil) (fun w hw => ?_)
       refine ⟨_, rfl, (hw.c), ?_⟩
       clear hw
       refine congrArg Value.bool ?_
       (have hd := Zfo (l := l_l) (k := k) (by omega); have hp := circ_pre (l := l_l); grind [IsCircle, mem_map_take])
      ·replace hc5 := dF hc5
       simp only [List.get_eq_getElem] at hc5
       refine Zf ?_; refine Zav ?_; refine Zf ?_
       refine Zag 36 rfl (fun hc6 => ?_) (fun hc6 => ?_)
       ·replace hc6 := dT hc6
        iterate 2 refine Zf ?_
        refine Zcc rfl rfl rfl rfl rfl (by exact Zbf (by decide) (by omega)) rfl ?_; refine Zaa rfl rfl rfl rfl F.elem27 (by exact (Int.toNat_of_nonneg (by omega)).symm) (by omega) (by exact SlM.plain (by assumption) (by (simp; omega))) rfl ?_; refine Zaq rfl rfl rfl (by exact SlM.plain (by assumption) (by (simp; omega))) F.foff80_1 rfl ?_; refine Zay rfl rfl rfl (by assumption) (by exact Zbl (by omega)) F.lay29 rfl rfl rfl ?_
        iterate 2 refine Zf ?_
        refine Zaa rfl rfl rfl rfl F.elem27 (by rfl) (by omega) (by exact SlM.plain (by assumption) (by (simp; omega))) rfl ?_; refine Zaq rfl rfl rfl (by exact SlM.plain (by assumption) (by (simp; omega))) F.foff80_1 rfl ?_; refine Zay rfl rfl rfl (by assumption) (by exact Zbl (by omega)) F.lay29 rfl rfl rfl ?_; refine X_fs rfl rfl F.ok40 rfl (rLess_ok _ _ _) rfl ?_
        rintro _ rfl
        refine Zel ?_
        iterate 2 refine Zl ?_
        refine Ze ?_; refine Zc ?_
        refine Zau rfl (fun hc7 => ?_) (fun hc7 => ?_)
        ·replace hc7 := nT hc7
         simp only [List.get_eq_getElem] at hc7
         refine Zj ?_; refine Za (l := [0]) rfl ?_; refine Zd ?_; refine Ze ?_; refine Zc ?_; refine Zak ?_; refine Zba ?_; refine Zbj ?_
         iterate 2 refine Zba ?_
         refine Zbj ?_; refine Zba ?_
         refine Zaj (.inr rfl) (.tmp rfl .nil) (fun w hw => ?_)
         refine ⟨_, rfl, (hw.c), ?_⟩
         clear hw
         refine congrArg Value.bool ?_
         (have hd := Zfo (l := l_l) (k := k) (by omega); have hp := circ_pre (l := l_l); grind [IsCircle, mem_map_take])
        ·replace hc7 := nF hc7
         simp only [List.get_eq_getElem] at hc7
         refine Zax ?_; refine Zc ?_; refine Zj ?_; refine Za (l := [0]) rfl ?_; refine Zd ?_; refine Ze ?_; refine Zc ?_; refine Zbe ?_; refine Y_pk [4, 51, 50, 49, 48, 47, 46, 45, 44, 43, 42, 41, 40, 39, 38, 37, 36, 35, 34, 33, 32, 31, 30, 29, 28, 27, 26, 25, 24, 23, 22, 21, 20, 19, 16, 15, 14, 13, 3, 2, 0] ?_; refine Zed (.succ .zero) (fun (j : Nat) z => z = [(4, .int .i64 (j : Int))] ∧ j ≤ k ∧ l_l[k].addr ∉ (l_l.take j).map PeerV.addr) (fun j => k - j) (0) (⟨rfl, by omega, by simp⟩) ?_
         rintro j _ ⟨rfl, hj, hJ⟩
         iterate 2 refine Zj ?_
         refine Za (l := [0, 1, 2]) rfl ?_
         iterate 2 refine Zf ?_
         refine Zav ?_; refine Ze ?_; refine Zc ?_
         refine Zau rfl (fun hc8 => ?_) (fun hc8 => ?_)
         ·replace hc8 := dT hc8
          refine Zax ?_; refine Zc ?_; refine Zj ?_; refine Zbe ?_; refine Zj ?_; refine Zar (l := [0, 1, 2, 3, 4, 5, 6, 7, 8, 9, 10]) #[0, 0, 3, 7, 15, 0, 0, 96, 224, 480, 1023] _ rfl (by kernel_rfl) (by kernel_rfl) St.drawn (fun _ h => h) ?_
          iterate 2 refine Zf ?_
          refine Zaa rfl rfl rfl rfl F.elem27 (by rfl) (by omega) (by exact SlM.plain (by assumption) (by (simp; omega))) rfl ?_; refine Zaq rfl rfl rfl (by exact SlM.plain (by assumption) (by (simp; omega))) F.foff80_0 rfl ?_; refine Zay rfl rfl rfl (by assumption) (by exact Zbl (by omega)) F.lay3 rfl rfl rfl ?_
          iterate 2 refine Zf ?_
          refine Zaa rfl rfl rfl rfl F.elem27 (by rfl) (by omega) (by exact SlM.plain (by assumption) (by (simp; omega))) rfl ?_; refine Zaq rfl rfl rfl (by exact SlM.plain (by assumption) (by (simp; omega))) F.foff80_0 rfl ?_; refine Zay rfl rfl rfl (by assumption) (by exact Zbl (by omega)) F.lay3 rfl rfl rfl ?_; refine Zav ?_; refine Ze ?_; refine Zc ?_
          refine Zau rfl (fun hc9 => ?_) (fun hc9 => ?_)
          ·replace hc9 := dT hc9
           simp only [List.get_eq_getElem] at hc9
           refine Zj ?_; refine Za (l := [0]) rfl ?_; refine Zd ?_; refine Ze ?_; refine Zc ?_; refine Zak ?_; refine Zbj ?_
           iterate 2 refine Zba ?_
           iterate 2 refine Zbj ?_
           iterate 2 refine Zba ?_
           refine Zbj ?_; refine Zba ?_
           refine Zaj (.inr rfl) (.tmp rfl .nil) (fun w hw => ?_)
           refine ⟨_, rfl, (hw.c), ?_⟩
           clear hw
           refine congrArg Value.bool ?_
           (have hd := Zfo (l := l_l) (k := k) (by omega); have hp := circ_pre (l := l_l); grind [IsCircle, mem_map_take])
          ·replace hc9 := dF hc9
           simp only [List.get_eq_getElem] at hc9
           refine Zax ?_; refine Zde ?_; refine Zc ?_; refine Za (l := [0, 1, 2]) rfl ?_; refine Zf ?_; refine Zcc rfl rfl rfl rfl rfl (by exact Zbf (by decide) (by omega)) rfl ?_; refine Zd ?_; refine Ze ?_; refine Zda (a' := [(4, _)]) (j + 1) (.cons (k := 4) rfl (.cons (k := 51) rfl (.cons (k := 50) rfl (.cons (k := 49) rfl (.cons (k := 48) rfl (.cons (k := 47) rfl (.cons (k := 46) rfl (.cons (k := 45) rfl (.cons (k := 44) rfl (.cons (k := 43) rfl (.cons (k := 42) rfl (.cons (k := 41) rfl (.cons (k := 40) rfl (.cons (k := 39) rfl (.cons (k := 38) rfl (.cons (k := 37) rfl (.cons (k := 36) rfl (.cons (k := 35) rfl (.cons (k := 34) rfl (.cons (k := 33) rfl (.cons (k := 32) rfl (.cons (k := 31) rfl (.cons (k := 30) rfl (.cons (k := 29) rfl (.cons (k := 28) rfl (.cons (k := 27) rfl (.cons (k := 26) rfl (.cons (k := 25) rfl (.cons (k := 24) rfl (.cons (k := 23) rfl (.cons (k := 22) rfl (.cons (k := 21) rfl (.cons (k := 20) rfl (.cons (k := 19) rfl (.cons (k := 16) rfl (.cons (k := 15) rfl (.cons (k := 14) rfl (.cons (k := 13) rfl (.cons (k := 3) rfl (.cons (k := 2) rfl (.cons (k := 0) rfl (.nil)))))))))))))))))))))))))))))))))))))))))) (fun w hw => by first | exact hw | exact hw.c) ?_ ?_
           ·refine ⟨rfl, by omega, ?_⟩
            exact not_mem_step (by omega) hJ (by assumption)
           ·omega
         ·replace hc8 := dF hc8
          refine Zcm ?_
          iterate 2 refine Zcd ?_
          refine Zdl ?_; refine Zde ?_; refine Zc ?_; refine Za (l := [0, 1, 2]) rfl ?_; refine Zf ?_; refine Zcc rfl rfl rfl rfl rfl (by exact Zbf (by decide) (by omega)) rfl ?_; refine Zd ?_; refine Ze ?_; refine Zda (a' := [(3, _)]) (k + 1) (.cons (k := 3) rfl (.cons (k := 2) rfl (.cons (k := 0) rfl (.nil)))) (fun w hw => by first | exact hw | exact hw.c) ?_ ?_
          ·refine ⟨rfl, by omega, ?_⟩
           have hd := Zfo (l := l_l) (k := k) (by omega); have hj9 : j = k := (by omega); subst hj9; grind
          ·omega
       ·replace hc6 := dF hc6
        iterate 13 refine Zz ?_
        iterate 2 refine Zl ?_
        refine Ze ?_; refine Zc ?_; refine Zeu rfl ?_; refine Zax ?_; refine Zc ?_; refine Zj ?_; refine Za (l := [0]) rfl ?_; refine Zd ?_; refine Ze ?_; refine Zc ?_; refine Zbe ?_; refine Y_pk [4, 51, 50, 49, 48, 47, 46, 45, 44, 43, 42, 41, 40, 39, 38, 37, 36, 35, 34, 33, 32, 31, 30, 29, 28, 27, 26, 25, 24, 23, 22, 21, 20, 19, 16, 15, 14, 13, 3, 2, 0] ?_; refine Zed (.succ .zero) (fun (j : Nat) z => z = [(4, .int .i64 (j : Int))] ∧ j ≤ k ∧ l_l[k].addr ∉ (l_l.take j).map PeerV.addr) (fun j => k - j) (0) (⟨rfl, by omega, by simp⟩) ?_
        rintro j _ ⟨rfl, hj, hJ⟩
        iterate 2 refine Zj ?_
        refine Za (l := [0, 1, 2]) rfl ?_
        iterate 2 refine Zf ?_
        refine Zav ?_; refine Ze ?_; refine Zc ?_
        refine Zau rfl (fun hc10 => ?_) (fun hc10 => ?_)
        ·replace hc10 := dT hc10
         (exfalso; omega)
        ·replace hc10 := dF hc10
         refine Zcm ?_
         iterate 2 refine Zcd ?_
         refine Zdl ?_; refine Zde ?_; refine Zc ?_; refine Za (l := [0, 1, 2]) rfl ?_; refine Zf ?_; refine Zcc rfl rfl rfl rfl rfl (by exact Zbf (by decide) (by omega)) rfl ?_; refine Zd ?_; refine Ze ?_; refine Zda (a' := [(3, _)]) (k + 1) (.cons (k := 3) rfl (.cons (k := 2) rfl (.cons (k := 0) rfl (.nil)))) (fun w hw => by first | exact hw | exact hw.c) ?_ ?_
         ·refine ⟨rfl, by omega, ?_⟩
          have hd := Zfo (l := l_l) (k := k) (by omega); have hj9 : j = k := (by omega); subst hj9; grind
         ·omega
    ·replace hc3 := dF hc3
     refine Zcm ?_
     iterate 2 refine Zcd ?_
     refine Zdl ?_; refine Zc ?_; refine Y_pk [2] ?_; refine Zj ?_; refine Za (l := [0]) rfl ?_; refine Zd ?_; refine Ze ?_; refine Zc ?_; refine Zak ?_
     refine Zaj (.inr rfl) (.tmp rfl .nil) (fun w hw => ?_)
     refine ⟨_, rfl, (hw.c), ?_⟩
     clear hw
     refine congrArg Value.bool ?_
     (have hk9 : k = l_l.length := (by omega); subst hk9; grind [IsCircle, List.take_length])
theorem Search_ok (M : Mem) (Hin : Hp) (g : FuncId) (caps : List Value) (p : Nat → Bool) (n : Nat) (hn : n ≤ 1000000000) (hok : okFn Tryz.prog g = true) (hc : ∀ i, i < n → Fo Tryz.prog g ([.int .i64 (i : Int)] ++ caps) M Hin (fun M' v => M' = M ∧ v = .bool (p i))) (hmono : ∀ i j, i ≤ j → j < n → p i = true → p j = true) : Fo Tryz.prog 107 [.int .i64 (n : Int), .func (.func g) #[] caps.toArray] M Hin (fun M' v => M' = M ∧ v = .int .i64 (firstP p n : Nat)) := by
  refine Zfq Tryz.func107 rfl Tryz.ntmps107 rfl ?_; intro H
  refine Zj ?_; refine Za (l := [0]) rfl ?_; refine Zd ?_; refine Ze ?_; refine Zc ?_; refine Zj ?_; refine Za (l := [0, 1, 2]) rfl ?_; refine Zf ?_
  iterate 2 refine Zd ?_
  refine Ze ?_; refine Zc ?_; refine Y_pk [6, 5, 4, 1] ?_; refine Zj ?_; refine Zbe ?_; refine Y_pk [5, 6, 4, 1] ?_; refine Zed (.succ (.succ .zero)) (fun (x : Nat × Nat) z => z = [(5, .int .i64 (x.1 : Int)), (6, .int .i64 (x.2 : Int))] ∧ x.1 ≤ x.2 ∧ x.2 ≤ n ∧ (∀ y, y < x.1 → p y = false) ∧ (x.2 < n → p x.2 = true)) (fun x => x.2 - x.1) ((0, n)) (⟨rfl, Nat.zero_le _, Nat.le_refl _, fun y h => (by cases h), fun h => (by omega)⟩) ?_
  rintro ⟨a, b⟩ z ⟨hz, h1, h2, h3, h4⟩
  simp only at hz h1 h2 h3 h4
  subst hz
  iterate 2 refine Zj ?_
  refine Za (l := [0, 1, 2]) rfl ?_
  iterate 2 refine Zf ?_
  refine Zav ?_; refine Ze ?_; refine Zc ?_
  refine Zau rfl (fun hc1 => ?_) (fun hc1 => ?_)
  ·skip
   replace hc1 := dT hc1
   refine Zax ?_; refine Zc ?_; refine Zbe ?_; refine Zj ?_; refine Za (l := [0, 1, 2, 3, 4, 5, 6]) rfl ?_
   iterate 2 refine Zf ?_
   refine Zcc rfl rfl rfl rfl rfl (by exact Zbf (by decide) (by omega)) rfl ?_; refine X_conv rfl rfl rfl Tryz.underlying3 Tryz.underlying144 (by exact wrap_u64_in (by decide) (by omega)) rfl ?_; refine X_shift rfl rfl rfl rfl (by decide) (shr_lit 1 (by decide)) rfl rfl ?_; refine X_conv rfl rfl rfl Tryz.underlying144 Tryz.underlying3 (by exact Zbf (by decide) (by omega)) rfl ?_
   have e9 : ((a : Int) + (b : Int)) / 2 ^ 1 = (((a + b) / 2 : Nat) : Int) := by omega
   rw [e9]
   refine Zd ?_; refine Ze ?_; refine Zc ?_; refine Zj ?_; refine Za (l := [0, 1, 2, 3]) rfl ?_
   iterate 2 refine Zf ?_
   have hab : a < b := by omega
   refine X_foV rfl rfl rfl hok rfl rfl (hc ((a + b) / 2) (by omega)) (by repeat first | exact Rem.here _ | exact Rem.two | apply Rem.skip | apply Rem.over) (Zbq rfl) ?_
   rintro _ M1 _ ⟨hM1, rfl⟩; subst M1
   refine Zel ?_; refine Ze ?_; refine Zc ?_
   refine Zau rfl (fun hc2 => ?_) (fun hc2 => ?_)
   ·simp only [Bool.not_eq_true', Bool.not_eq_false'] at hc2
    have hP := hc2
    refine Za (l := [0, 1, 2]) rfl ?_; refine Zf ?_; refine Zcc rfl rfl rfl rfl rfl (by exact Zbf (by decide) (by omega)) rfl ?_; refine Zd ?_; refine Ze ?_; refine Zde ?_; refine Zda (a' := [(5, _), (6, _)]) (((a + b) / 2 + 1, b)) (.cons (k := 5) rfl (.cons (k := 6) rfl (.cons (k := 4) rfl (.cons (k := 1) rfl (.nil))))) (fun w hw => by first | exact hw | exact hw.c) ?_ ?_
    ·refine ⟨rfl, (by show (a + b) / 2 + 1 ≤ b; omega), h2, fun y hy => ?_, h4⟩
     have hy2 : y < (a + b) / 2 + 1 := hy
     cases hpy : p y with
     |false => rfl
     |true => have := hmono y ((a + b) / 2) (by omega) (by omega) hpy; simp_all
    ·show b - ((a + b) / 2 + 1) < b - a; omega
   ·simp only [Bool.not_eq_true', Bool.not_eq_false'] at hc2
    have hP := hc2
    refine Za (l := [0, 1]) rfl ?_; refine Zf ?_; refine Zd ?_; refine Ze ?_; refine Zde ?_; refine Zda (a' := [(5, _), (6, _)]) ((a, (a + b) / 2)) (.cons (k := 5) rfl (.cons (k := 6) rfl (.cons (k := 4) rfl (.cons (k := 1) rfl (.nil))))) (fun w hw => by first | exact hw | exact hw.c) ?_ ?_
    ·exact ⟨rfl, (by show a ≤ (a + b) / 2; omega), (by show (a + b) / 2 ≤ n; omega), h3, fun _ => by simpa using hP⟩
    ·show (a + b) / 2 - a < b - a; omega
  ·skip
   replace hc1 := dF hc1
   refine Zcm ?_
   iterate 2 refine Zcd ?_
   refine Zdl ?_; refine Zc ?_; refine Y_pk [5, 4] ?_; refine Zj ?_; refine Za (l := [0, 1]) rfl ?_; refine Zf ?_; refine Zd ?_; refine Ze ?_; refine Zc ?_; refine Y_pk [4] ?_; refine Zak ?_
   refine Zaj (.inr rfl) (.tmp rfl .nil) (fun w hw => ?_)
   refine ⟨_, M, rfl, Mem.le.refl M, hw.c, rfl, ?_⟩
   refine congrArg (Value.int .i64) ?_
   have e : a = b := by omega
   subst e
   exact congrArg Nat.cast (firstP_at h2 h3 h4).symm
theorem own1_ok (M : Mem) (b1 b2 : Nat) (l : Sl PeerV) (x : Plc) (s_l : SlM M l.a (l.l.map PeerV.segs) 21) (i : Nat) (hi : i < l.l.length) : Fo Tryz.prog 108 ([.int .i64 (i : Int)] ++ [.pointer (some ⟨b1, 0, none⟩), .pointer (some ⟨b2, 0, none⟩)]) M [(b2, rowO [idSeg x] 29), (b1, rowO [.one l.val] 27)] (fun M' v => M' = M ∧ v = .bool (pO l.l x i)) := by
  obtain ⟨l_a, l_c, l_l⟩ := l
  simp only at s_l hi
  have n_l : (l_l.map PeerV.segs).length = l_l.length := List.length_map ..
  refine Zfq Tryz.func108 rfl Tryz.ntmps108 rfl ?_; intro H
  refine Zj ?_; refine Za (l := [0]) rfl ?_; refine Zd ?_; refine Ze ?_; refine Zc ?_; refine Zj ?_; refine Zar (l := [0, 1, 2, 3, 4, 5, 6, 7, 8]) #[0, 0, 3, 7, 15, 0, 63, 127, 255] _ rfl (by kernel_rfl) (by kernel_rfl) St.drawn (fun _ h => h) ?_; refine Zi F.lay27 ?_; refine Zf ?_; refine Zaa rfl rfl rfl rfl F.elem27 (by rfl) (by omega) (by exact SlM.plain (by assumption) (by (simp; omega))) rfl ?_; refine Zaq rfl rfl rfl (by exact SlM.plain (by assumption) (by (simp; omega))) F.foff80_1 rfl ?_; refine Zay rfl rfl rfl (by assumption) (by exact Zbl (by omega)) F.lay29 rfl rfl rfl ?_; refine Zi F.lay29 ?_; refine X_fs rfl rfl F.ok37 rfl (Less_ok _ _ _) rfl ?_
  rintro _ rfl
  refine Zel ?_; refine Zd ?_; refine Ze ?_; refine Zc ?_; refine Y_pk [4] ?_; refine Zak ?_
  refine Zaj (.inr rfl) (.tmp rfl .nil) (fun w hw => ?_)
  exact ⟨_, M, rfl, Mem.le.refl M, hw.c, rfl, congrArg Value.bool (by rw [pO_at hi]; simp)⟩
theorem owner_ok (M : Mem) (l : (Sl PeerV)) (x : Plc) (hl0 : SlK M PeerV.segs 21 l) (hc : IsCircle l.l) : Fs Tryz.prog 87 [Sl.val l, aggV [idSeg x]] M (fun v => v = Value.int .i64 (((ownerI l.l x : Nat) : Int))) := by
  obtain ⟨l_a, l_c, l_l⟩ := l
  have k_l : SlK M PeerV.segs 21 ⟨l_a, l_c, l_l⟩ := hl0
  have s_l : SlM M l_a (l_l.map PeerV.segs) 21 := k_l.h1
  have n_l : (l_l.map PeerV.segs).length = l_l.length := List.length_map ..
  have m_l : l_l.length ≤ 9223372036854775807 := k_l.h2
  have c_l : l_l.length ≤ l_c := k_l.h3
  have hc1 := hc.1
  simp only at hc1
  refine Zci Tryz.func87 rfl Tryz.ntmps87 rfl ?_; intro H
  refine Zj ?_; refine Za (l := [0, 1, 2]) rfl ?_
  refine Zcz ?_; intro b1
  refine Zcz ?_; intro b2
  refine Zd ?_; refine Ze ?_; refine Zc ?_; refine Y_pk [4, 3, 2] ?_; refine Zj ?_; refine Zar (l := [0, 1, 2, 3, 4, 5, 6, 7]) #[0, 1, 0, 7, 0, 16, 63, 127] _ rfl (by kernel_rfl) (by kernel_rfl) St.drawn (fun _ h => h) ?_; refine Zi F.lay27 ?_; refine Zbb F.elem27 ?_; refine X_makeFunc rfl rfl rfl rfl rfl ?_; refine X_fo rfl rfl F.ok107 rfl (Search_ok _ _ 108 [_, _] (pO l_l x) l_l.length (by omega) F.ok108 (fun i hi => own1_ok M _ _ ⟨l_a, l_c, l_l⟩ x s_l i hi) (pO_mono hc.2)) (by repeat first | exact Rem.here _ | exact Rem.two | apply Rem.skip | apply Rem.over) (Zbq rfl) ?_
  rintro _ M1 _ ⟨hM1, rfl⟩; subst M1
  refine Zi F.lay27 ?_; refine Zbb F.elem27 ?_; refine X_rem rfl rfl rfl rfl (by omega) (by exact rem_nn (by omega)) rfl ?_; refine Zd ?_; refine Ze ?_; refine Zc ?_; refine Y_pk [4] ?_; refine Zak ?_
  refine Zaj (.inr rfl) (.tmp rfl .nil) (fun w hw => ?_)
  refine ⟨_, rfl, (hw.c), ?_⟩
  clear hw
  exact congrArg (Value.int .i64) (Int.natCast_emod _ _).symm
theorem Owner_ok (M : Mem) (l : (Sl PeerV)) (x : Plc) (hl0 : SlK M PeerV.segs 21 l) : Fs Tryz.prog 52 [Sl.val l, aggV [idSeg x]] M (fun v => v = ofII (ownerR l.l x)) := by
  obtain ⟨l_a, l_c, l_l⟩ := l
  have k_l : SlK M PeerV.segs 21 ⟨l_a, l_c, l_l⟩ := hl0
  have s_l : SlM M l_a (l_l.map PeerV.segs) 21 := k_l.h1
  have n_l : (l_l.map PeerV.segs).length = l_l.length := List.length_map ..
  have m_l : l_l.length ≤ 9223372036854775807 := k_l.h2
  have c_l : l_l.length ≤ l_c := k_l.h3
  refine Zci Tryz.func52 rfl Tryz.ntmps52 rfl ?_; intro H
  refine Zj ?_; refine Za (l := [0, 1, 2]) rfl ?_
  refine Zcz ?_; intro b1
  iterate 2 refine Zd ?_
  refine Ze ?_; refine Zc ?_; refine Y_pk [5, 4, 3, 0] ?_
  iterate 2 refine Zj ?_
  refine Za (l := [0, 1, 2]) rfl ?_; refine Zf ?_; refine X_fs rfl rfl F.ok23 rfl (Circ_ok _ ⟨_, _, _⟩ (by assumption)) rfl ?_
  rintro _ rfl
  refine Zel ?_; refine Ze ?_; refine Zc ?_; refine Y_pk [8, 5, 4, 3, 0] ?_
  refine Zau rfl (fun hc2 => ?_) (fun hc2 => ?_)
  ·replace hc2 := nT hc2
   simp only [AnswerV.eta, MarkV.eta, CellV.eta, HeldV.eta, WaitV.eta, ServerV.eta, PeerV.eta, OpV.eta, ParcelV.eta, PostV.eta, WorkerV.eta] at hc2
   refine Zj ?_; refine Za (l := [0, 1]) rfl ?_
   iterate 2 refine Zd ?_
   refine Ze ?_; refine Zc ?_; refine Y_pk [5, 4, 3, 0] ?_; refine Zak ?_; refine Zba ?_
   refine Zaj (.inr rfl) (.tmp rfl (.tmp rfl .nil)) (fun w hw => ?_)
   refine ⟨_, rfl, (hw.c), ?_⟩
   clear hw
   refine congrArg ofII (a₁ := (_, _)) ?_
   grind [w64, ownerR]
  ·replace hc2 := nF hc2
   simp only [AnswerV.eta, MarkV.eta, CellV.eta, HeldV.eta, WaitV.eta, ServerV.eta, PeerV.eta, OpV.eta, ParcelV.eta, PostV.eta, WorkerV.eta] at hc2
   refine Zax ?_; refine Zc ?_; refine Y_pk [5, 4, 3, 0] ?_; refine Zj ?_; refine Za (l := [0, 1, 2, 3, 4]) rfl ?_; refine Zf ?_; refine Zi F.lay29 ?_; refine X_fs rfl rfl F.ok87 rfl (owner_ok _ ⟨_, _, _⟩ _ (by assumption) (by assumption)) rfl ?_
   rintro _ rfl
   iterate 2 refine Zd ?_
   refine Ze ?_; refine Zc ?_; refine Y_pk [5, 4] ?_; refine Zak ?_
   refine Zaj (.inr rfl) (.tmp rfl (.tmp rfl .nil)) (fun w hw => ?_)
   refine ⟨_, rfl, (hw.c), ?_⟩
   clear hw
   refine congrArg ofII (a₁ := (_, _)) ?_
   grind [w64, ownerR]
theorem rOwner_ok (M : Mem) (l : (Sl PeerV)) (x : Plc) (hl0 : SlK M PeerV.segs 21 l) : Fs Tryz.prog 69 [Sl.val l, aggV [idSeg x]] M (fun v => v = ofII (ownerR l.l x)) := by
  obtain ⟨l_a, l_c, l_l⟩ := l
  have k_l : SlK M PeerV.segs 21 ⟨l_a, l_c, l_l⟩ := hl0
  have s_l : SlM M l_a (l_l.map PeerV.segs) 21 := k_l.h1
  have n_l : (l_l.map PeerV.segs).length = l_l.length := List.length_map ..
  have m_l : l_l.length ≤ 9223372036854775807 := k_l.h2
  have c_l : l_l.length ≤ l_c := k_l.h3
  refine Zci Tryz.func69 rfl Tryz.ntmps69 rfl ?_; intro H
  refine Zj ?_; refine Za (l := [0, 1, 2]) rfl ?_
  refine Zcz ?_; intro b1
  iterate 2 refine Zd ?_
  refine Ze ?_; refine Zc ?_; refine Y_pk [5, 4, 3, 0] ?_
  iterate 2 refine Zj ?_
  refine Za (l := [0, 1, 2]) rfl ?_; refine Zf ?_; refine X_fs rfl rfl F.ok28 rfl (rCirc_ok _ ⟨_, _, _⟩ (by assumption)) rfl ?_
  rintro _ rfl
  refine Zel ?_; refine Ze ?_; refine Zc ?_; refine Y_pk [9, 5, 4, 3, 0] ?_
  refine Zau rfl (fun hc2 => ?_) (fun hc2 => ?_)
  ·replace hc2 := nT hc2
   simp only [AnswerV.eta, MarkV.eta, CellV.eta, HeldV.eta, WaitV.eta, ServerV.eta, PeerV.eta, OpV.eta, ParcelV.eta, PostV.eta, WorkerV.eta] at hc2
   refine Zj ?_; refine Za (l := [0, 1]) rfl ?_
   iterate 2 refine Zd ?_
   refine Ze ?_; refine Zc ?_; refine Y_pk [5, 4, 3, 0] ?_; refine Zak ?_; refine Zba ?_
   refine Zaj (.inr rfl) (.tmp rfl (.tmp rfl .nil)) (fun w hw => ?_)
   refine ⟨_, rfl, (hw.c), ?_⟩
   clear hw
   refine congrArg ofII (a₁ := (_, _)) ?_
   grind [ownerR]
  ·replace hc2 := nF hc2
   simp only [AnswerV.eta, MarkV.eta, CellV.eta, HeldV.eta, WaitV.eta, ServerV.eta, PeerV.eta, OpV.eta, ParcelV.eta, PostV.eta, WorkerV.eta] at hc2
   refine Zax ?_; refine Zc ?_; refine Y_pk [5, 4, 3, 0] ?_
   iterate 2 refine Zj ?_
   refine Za (l := [0]) rfl ?_; refine Zd ?_; refine Ze ?_; refine Zc ?_; refine Zbe ?_; refine Y_pk [6, 5, 4, 3, 0] ?_; refine Zed (.succ .zero) (fun (k : Nat) z => z = [(6, .int .i64 (k : Int))] ∧ k ≤ l_l.length ∧ (IsCircle l_l ∧ ∀ j, j < k → pO l_l x j = false)) (fun k => l_l.length - k) (0) (⟨rfl, by omega, by (refine ⟨by assumption, ?_⟩; intro j hj; omega)⟩) ?_
   rintro k _ ⟨rfl, hk, hI⟩
   iterate 2 refine Zj ?_
   refine Za (l := [0, 1, 2, 3]) rfl ?_
   iterate 2 refine Zf ?_
   refine Zbb F.elem27 ?_; refine Zav ?_; refine Ze ?_; refine Zc ?_
   refine Zau rfl (fun hc3 => ?_) (fun hc3 => ?_)
   ·replace hc3 := dT hc3
    refine Zax ?_; refine Zc ?_; refine Zj ?_; refine Zbe ?_; refine Zj ?_; refine Zar (l := [0, 1, 2, 3, 4, 5, 6, 7]) #[0, 0, 3, 7, 15, 0, 63, 127] _ rfl (by kernel_rfl) (by kernel_rfl) St.drawn (fun _ h => h) ?_
    iterate 2 refine Zf ?_
    refine Zaa rfl rfl rfl rfl F.elem27 (by rfl) (by omega) (by exact SlM.plain (by assumption) (by (simp; omega))) rfl ?_; refine Zaq rfl rfl rfl (by exact SlM.plain (by assumption) (by (simp; omega))) F.foff80_1 rfl ?_; refine Zay rfl rfl rfl (by assumption) (by exact Zbl (by omega)) F.lay29 rfl rfl rfl ?_; refine Zi F.lay29 ?_; refine X_fs rfl rfl F.ok40 rfl (rLess_ok _ _ _) rfl ?_
    rintro _ rfl
    refine Zel ?_; refine Ze ?_; refine Zc ?_
    refine Zau rfl (fun hc4 => ?_) (fun hc4 => ?_)
    ·replace hc4 := nT hc4
     simp only [List.get_eq_getElem] at hc4
     refine Zj ?_; refine Za (l := [0, 1, 2]) rfl ?_; refine Zf ?_
     iterate 2 refine Zd ?_
     refine Ze ?_; refine Zc ?_; refine Zak ?_; refine Zbj ?_
     iterate 2 refine Zba ?_
     refine Zbj ?_; refine Zba ?_
     refine Zaj (.inr rfl) (.tmp rfl (.tmp rfl .nil)) (fun w hw => ?_)
     refine ⟨_, rfl, (hw.c), ?_⟩
     clear hw
     refine congrArg ofII (a₁ := (_, _)) ?_
     (have h9 := ownerI_at (l := l_l) (x := x) (k := k) (by omega) hI.2 (by rw [pO_at (by omega)]; simp_all); grind [ownerR])
    ·replace hc4 := nF hc4
     simp only [List.get_eq_getElem] at hc4
     refine Zax ?_; refine Zde ?_; refine Zc ?_; refine Za (l := [0, 1, 2]) rfl ?_; refine Zf ?_; refine Zcc rfl rfl rfl rfl rfl (by exact Zbf (by decide) (by omega)) rfl ?_; refine Zd ?_; refine Ze ?_; refine Zda (a' := [(6, _)]) (k + 1) (.cons (k := 6) rfl (.cons (k := 5) rfl (.cons (k := 4) rfl (.cons (k := 3) rfl (.cons (k := 0) rfl (.nil)))))) (fun w hw => by first | exact hw | exact hw.c) ?_ ?_
     ·refine ⟨rfl, by omega, ?_⟩
      refine ⟨hI.1, ?_⟩; intro j hj; rcases Nat.lt_or_ge j k with h9 | h9; exact hI.2 j h9; obtain rfl : j = k := by omega
      rw [pO_at (by omega)]; simp_all
     ·omega
   ·replace hc3 := dF hc3
    refine Zcm ?_
    iterate 2 refine Zcd ?_
    refine Zdl ?_; refine Zc ?_; refine Y_pk [5, 4] ?_; refine Zj ?_; refine Za (l := [0, 1]) rfl ?_
    iterate 2 refine Zd ?_
    refine Ze ?_; refine Zc ?_; refine Zak ?_
    refine Zaj (.inr rfl) (.tmp rfl (.tmp rfl .nil)) (fun w hw => ?_)
    refine ⟨_, rfl, (hw.c), ?_⟩
    clear hw
    refine congrArg ofII (a₁ := (_, _)) ?_
    (have hk9 : k = l_l.length := (by omega); subst hk9; have h9 := ownerI_none hI.2; grind [ownerR])
theorem Copies_ok (M : Mem) (l : (Sl PeerV)) (x : Plc) (r : Int) (hl0 : SlK M PeerV.segs 21 l) : Esp.Fn Tryz.prog 95 [Sl.val l, aggV [idSeg x], .int .i64 r] M (fun M' v => IntsE M' v (copiesR l.l x r)) := by
  obtain ⟨l_a, l_c, l_l⟩ := l
  have k_l : SlK M PeerV.segs 21 ⟨l_a, l_c, l_l⟩ := hl0
  have s_l : SlM M l_a (l_l.map PeerV.segs) 21 := k_l.h1
  have n_l : (l_l.map PeerV.segs).length = l_l.length := List.length_map ..
  have m_l : l_l.length ≤ 9223372036854775807 := k_l.h2
  have c_l : l_l.length ≤ l_c := k_l.h3
  refine Zek Tryz.func95 rfl Tryz.ntmps95 rfl ?_; intro H
  refine Zj ?_; refine Za (l := [0, 1, 2]) rfl ?_
  refine Zcz ?_; intro b1
  iterate 2 refine Zd ?_
  refine Ze ?_; refine Zc ?_; refine Y_pk [7, 6, 4, 0, 2] ?_
  iterate 2 refine Zj ?_
  refine Za (l := [0, 1, 2, 3, 4, 5, 6, 7, 8, 9, 10]) rfl ?_; refine Zf ?_; refine X_fs rfl rfl F.ok23 rfl (Circ_ok _ ⟨_, _, _⟩ (by assumption)) rfl ?_
  rintro _ rfl
  refine Zel ?_; refine Zf ?_
  refine Zag 14 rfl (fun hc2 => ?_) (fun hc2 => ?_)
  ·replace hc2 := nT hc2
   simp only [AnswerV.eta, MarkV.eta, CellV.eta, HeldV.eta, WaitV.eta, ServerV.eta, PeerV.eta, OpV.eta, ParcelV.eta, PostV.eta, WorkerV.eta] at hc2
   iterate 2 refine Zz ?_
   refine Zl ?_; refine Zf ?_
   iterate 2 refine Zz ?_
   refine Zl ?_; refine Ze ?_; refine Zc ?_; refine Y_pk [21, 7, 6, 4, 0, 2] ?_; refine Zcy rfl ?_; refine Zj ?_; refine Za (l := [0, 1]) rfl ?_
   iterate 2 refine Zd ?_
   refine Ze ?_; refine Zc ?_; refine Y_pk [7, 6, 4, 0, 2] ?_; refine Zak ?_; refine Zba ?_
   refine Zaj (.inr rfl) (.tmp rfl (.tmp rfl .nil)) (fun w hw => ?_)
   refine ⟨_, M, rfl, Mem.le.refl M, hw.c, ?_⟩
   rw [show copiesR l_l x r = ([], 1) from copiesR_no (by rintro ⟨g1, g2, g3⟩; first | exact absurd g1 (by assumption) | omega | exact hcn (by assumption) g1)]
   exact ⟨⟨none, 0, []⟩, rfl, rfl, SlK.nil⟩
  ·replace hc2 := nF hc2
   simp only [AnswerV.eta, MarkV.eta, CellV.eta, HeldV.eta, WaitV.eta, ServerV.eta, PeerV.eta, OpV.eta, ParcelV.eta, PostV.eta, WorkerV.eta] at hc2
   refine Zf ?_; refine Zav ?_; refine Zl ?_; refine Zf ?_
   refine Zag 18 rfl (fun hc3 => ?_) (fun hc3 => ?_)
   ·replace hc3 := dT hc3
    iterate 2 refine Zz ?_
    refine Zl ?_; refine Ze ?_; refine Zc ?_; refine Y_pk [21, 7, 6, 4, 0, 2] ?_; refine Zcy rfl ?_; refine Zj ?_; refine Za (l := [0, 1]) rfl ?_
    iterate 2 refine Zd ?_
    refine Ze ?_; refine Zc ?_; refine Y_pk [7, 6, 4, 0, 2] ?_; refine Zak ?_; refine Zba ?_
    refine Zaj (.inr rfl) (.tmp rfl (.tmp rfl .nil)) (fun w hw => ?_)
    refine ⟨_, M, rfl, Mem.le.refl M, hw.c, ?_⟩
    rw [show copiesR l_l x r = ([], 1) from copiesR_no (by rintro ⟨g1, g2, g3⟩; first | exact absurd g1 (by assumption) | omega | exact hcn (by assumption) g1)]
    exact ⟨⟨none, 0, []⟩, rfl, rfl, SlK.nil⟩
   ·replace hc3 := dF hc3
    refine Zf ?_; refine Zav ?_; refine Zl ?_; refine Ze ?_; refine Zc ?_; refine Y_pk [21, 7, 6, 4, 0, 2] ?_
    refine Zau rfl (fun hc4 => ?_) (fun hc4 => ?_)
    ·replace hc4 := dT hc4
     refine Zj ?_; refine Za (l := [0, 1]) rfl ?_
     iterate 2 refine Zd ?_
     refine Ze ?_; refine Zc ?_; refine Y_pk [7, 6, 4, 0, 2] ?_; refine Zak ?_; refine Zba ?_
     refine Zaj (.inr rfl) (.tmp rfl (.tmp rfl .nil)) (fun w hw => ?_)
     refine ⟨_, M, rfl, Mem.le.refl M, hw.c, ?_⟩
     rw [show copiesR l_l x r = ([], 1) from copiesR_no (by rintro ⟨g1, g2, g3⟩; first | exact absurd g1 (by assumption) | omega | exact hcn (by assumption) g1)]
     exact ⟨⟨none, 0, []⟩, rfl, rfl, SlK.nil⟩
    ·replace hc4 := dF hc4
     refine Zax ?_; refine Zc ?_; refine Y_pk [7, 6, 4, 0, 2] ?_; refine Zj ?_; refine Za (l := [0, 1, 2, 3]) rfl ?_
     obtain ⟨rn, rfl⟩ : ∃ n : Nat, r = n := ⟨r.toNat, by omega⟩
     have hc : IsCircle l_l := by first | assumption | exact hcc (by assumption)
     have hc1 := hc.1
     obtain ⟨o9, hog⟩ : ∃ o, ownerI l_l x = o := ⟨_, rfl⟩
     have ho9 : o9 < l_l.length := by rw [← hog]; exact ownerI_lt (by omega)
     refine Zf ?_; refine Zi F.lay29 ?_; refine X_fs rfl rfl F.ok87 rfl (owner_ok _ ⟨l_a, l_c, l_l⟩ x k_l hc) rfl ?_
     rintro _ hv
     replace hv : _ = Value.int .i64 ((ownerI l_l x : Nat) : Int) := hv
     rw [hog] at hv
     subst hv
     refine Zd ?_; refine Ze ?_; refine Zc ?_; refine Y_pk [8, 7, 6, 0, 2] ?_; refine Zj ?_; refine Za (l := [0]) rfl ?_; refine Zd ?_; refine Ze ?_; refine Zc ?_
     iterate 2 refine Zj ?_
     refine Za (l := [0, 1, 2, 3, 4]) rfl ?_
     iterate 2 refine Zf ?_
     refine Zbb F.elem27 ?_; refine X_min rfl rfl rfl rfl rfl rfl ?_
     obtain ⟨m9, hmn⟩ : ∃ m, m = min rn l_l.length := ⟨_, rfl⟩
     rw [show (if (l_l.length : Int) < (rn : Int) then (l_l.length : Int) else (rn : Int)) = (m9 : Int) by split <;> omega]
     refine Zf ?_; refine Ze ?_; refine Zc ?_; refine Y_pk [29, 28, 9, 8, 7, 6, 0] ?_; refine Zbe ?_; refine Y_pk [29, 9, 28, 8, 7, 6, 0] ?_; refine Zeo (Hin := []) (.succ (.succ .zero)) (by repeat first | exact Rem.here _ | exact Rem.two | apply Rem.skip | apply Rem.over) (fun (k : Nat) M1 h1 z => ∃ v, M1 = M ∧ z = [(29, .int .i64 (k : Int)), (9, v)] ∧ k ≤ rn ∧ k ≤ l_l.length ∧ OSl 3 1 v h1 (((List.range k).map fun k => (((o9 + k) % l_l.length : Nat) : Int)).map (oneI .i64))) (fun k => l_l.length - k) (0) (⟨_, rfl, rfl, by omega, by omega, OSl.nil⟩) ?_
     rintro k M1 h1 z hm1 ⟨v0, hM1, rfl, hk, hk2, ho⟩
     subst hM1
     obtain ⟨ad0, cp0, rfl⟩ := ho.val
     have hml : (((List.range k).map fun k => (((o9 + k) % l_l.length : Nat) : Int)).map (oneI .i64)).length = k := by simp
     rw [hml] at ho ⊢
     refine Zj ?_; refine Za (l := [0]) rfl ?_; refine Zav ?_; refine Ze ?_; refine Zc ?_; refine Zj ?_
     refine Zau rfl (fun hc5 => ?_) (fun hc5 => ?_)
     ·replace hc5 := dT hc5
      refine Zax ?_; refine Zc ?_; refine Zj ?_; refine Zbe ?_; refine Zj ?_; refine Za (l := [0, 1]) rfl ?_; refine Zf ?_; refine Zd ?_; refine Ze ?_; refine Zc ?_; refine Za (l := [0, 1, 2, 3, 4, 5, 6, 7, 8, 9]) rfl ?_
      iterate 3 refine Zf ?_
      refine Zcc rfl rfl rfl rfl rfl (by exact Zbf (by decide) (by omega)) rfl ?_; refine Zf ?_; refine Zbb F.elem27 ?_; refine X_rem rfl rfl rfl rfl (by omega) (by exact rem_nn (by omega)) rfl ?_
      have hq0 : (((o9 : Nat) : Int) + (k : Int)) % (l_l.length : Int) = (((o9 + k) % l_l.length : Nat) : Int) := by rw [Int.natCast_emod]; first | rfl | (congr 1; omega)
      rw [hq0]
      refine Zbt rfl rfl F.elem52 F.zero3 rfl rfl (.cons rfl (by constructor) .nil) rfl rfl (by simp only [List.map_cons, List.map_nil] <;> rfl) rfl ?_; intro b6 hob7
      refine Zdn (m := 1000000) rfl rfl rfl rfl rfl F.elem52 F.zero3 (by rfl) rfl (by assumption) (by repeat first | exact Rem.here _ | exact Rem.two | apply Rem.skip | apply Rem.over) (Src.own hob7.lens (by (refine Zdy ?_; (repeat (first | exact Zbp | refine Zcb ?_ | (refine Zam ?_ ?_; rfl))); done)) rfl (by repeat first | exact List.Mem.head _ | refine List.Mem.tail _ ?_ | refine List.mem_append_right _ ?_)) (by (simp; omega)) (by decide) rfl ?_; intro v10 hs9 ho8; obtain ⟨adv10, cpv10, rfl⟩ := ho8.valAt (n := k + 1) (by (simp; done))
      refine Zd ?_; refine Ze ?_; refine Zde ?_; refine Zc ?_; refine Za (l := [0, 1]) rfl ?_; refine Zcc rfl rfl rfl rfl rfl (by exact Zbf (by decide) (by omega)) rfl ?_; refine Zf ?_; refine Ze ?_; refine Zcr (a' := [(29, _), (9, _)]) (k + 1) (hs9) (.cons (k := 29) rfl (.cons (k := 9) rfl (.cons (k := 28) rfl (.cons (k := 8) rfl (.cons (k := 7) rfl (.cons (k := 6) rfl (.cons (k := 0) rfl (.nil)))))))) (by exact Mem.le.refl _) (fun w hw => by first | exact hw | exact hw.c) ?_ ?_
      ·refine ⟨_, rfl, rfl, by omega, by omega, ?_⟩
       rw [List.range_succ, List.map_append, List.map_append]
       exact ho8
      ·omega
     ·replace hc5 := dF hc5
      refine Zcm ?_
      iterate 2 refine Zcd ?_
      refine Zdl ?_; refine Zc ?_; refine Y_pk [9, 7, 6] ?_; refine Zj ?_; refine Za (l := [0, 1, 2]) rfl ?_; refine Zf ?_
      iterate 2 refine Zd ?_
      refine Ze ?_; refine Zc ?_; refine Y_pk [7, 6] ?_; refine Zak ?_
      refine Zaj (.inr rfl) (.tmp rfl (.tmp rfl .nil)) (fun w hw => ?_)
      obtain rfl : k = min rn l_l.length := by omega
      obtain ⟨M9, s1, g1, g2, g3, g4, g5⟩ := OSl.freezeK (f := oneI .i64) (H := H) (l := (List.range (min rn l_l.length)).map fun k => (((o9 + k) % l_l.length : Nat) : Int)) (ho) (hw.c)
      refine ⟨_, M9, rfl, g1, g2, ?_⟩
      rw [show copiesR l_l x ((rn : Nat) : Int) = _ from copiesR_yes hc (by omega) (by omega)]
      simp only [hog]
      exact ⟨s1, by rw [← g3]; rfl, g4, g5⟩
theorem rCopies_ok (M : Mem) (l : (Sl PeerV)) (x : Plc) (r : Int) (hl0 : SlK M PeerV.segs 21 l) : Esp.Fn Tryz.prog 104 [Sl.val l, aggV [idSeg x], .int .i64 r] M (fun M' v => IntsE M' v (copiesR l.l x r)) := by
  obtain ⟨l_a, l_c, l_l⟩ := l
  have k_l : SlK M PeerV.segs 21 ⟨l_a, l_c, l_l⟩ := hl0
  have s_l : SlM M l_a (l_l.map PeerV.segs) 21 := k_l.h1
  have n_l : (l_l.map PeerV.segs).length = l_l.length := List.length_map ..
  have m_l : l_l.length ≤ 9223372036854775807 := k_l.h2
  have c_l : l_l.length ≤ l_c := k_l.h3
  refine Zek Tryz.func104 rfl Tryz.ntmps104 rfl ?_; intro H
  refine Zj ?_; refine Za (l := [0, 1, 2]) rfl ?_
  refine Zcz ?_; intro b1
  iterate 2 refine Zd ?_
  refine Ze ?_; refine Zc ?_; refine Y_pk [7, 6, 4, 0, 2] ?_; refine Zj ?_; refine Za (l := [0, 1, 2, 3, 4, 5, 6, 7]) rfl ?_; refine Zf ?_; refine Zi F.lay29 ?_; refine X_fs rfl rfl F.ok69 rfl (rOwner_ok _ ⟨l_a, l_c, l_l⟩ x k_l) rfl ?_
  rintro _ hv
  obtain ⟨⟨ow, co⟩, howe⟩ : ∃ q, ownerR l_l x = q := ⟨_, rfl⟩
  replace hv : _ = ofII (ownerR l_l x) := hv
  rw [howe] at hv
  subst hv
  have hcc : co = 0 → IsCircle l_l := fun e => by unfold ownerR at howe; split at howe; assumption; cases howe; cases e
  have hcn : co ≠ 0 → ¬ IsCircle l_l := fun e h9 => by unfold ownerR at howe; rw [if_pos h9] at howe; cases howe; exact e rfl
  refine Zf ?_
  iterate 2 refine Zcf ?_
  iterate 2 refine Zd ?_
  refine Ze ?_; refine Zc ?_; refine Y_pk [9, 8, 7, 6, 0, 2] ?_
  iterate 2 refine Zj ?_
  refine Za (l := [0, 1, 2, 3, 4, 5, 6, 7, 8, 9]) rfl ?_; refine Zf ?_; refine Zav ?_; refine Zf ?_
  refine Zag 20 rfl (fun hc2 => ?_) (fun hc2 => ?_)
  ·replace hc2 := nT hc2
   simp only [AnswerV.eta, MarkV.eta, CellV.eta, HeldV.eta, WaitV.eta, ServerV.eta, PeerV.eta, OpV.eta, ParcelV.eta, PostV.eta, WorkerV.eta] at hc2
   iterate 2 refine Zz ?_
   refine Zl ?_; refine Zf ?_
   iterate 2 refine Zz ?_
   refine Zl ?_; refine Ze ?_; refine Zc ?_; refine Y_pk [27, 8, 7, 6, 0, 2] ?_; refine Zcy rfl ?_; refine Zj ?_; refine Za (l := [0, 1]) rfl ?_
   iterate 2 refine Zd ?_
   refine Ze ?_; refine Zc ?_; refine Y_pk [7, 6, 8, 0, 2] ?_; refine Zak ?_; refine Zba ?_
   refine Zaj (.inr rfl) (.tmp rfl (.tmp rfl .nil)) (fun w hw => ?_)
   refine ⟨_, M, rfl, Mem.le.refl M, hw.c, ?_⟩
   rw [show copiesR l_l x r = ([], 1) from copiesR_no (by rintro ⟨g1, g2, g3⟩; first | exact absurd g1 (by assumption) | omega | exact hcn (by assumption) g1)]
   exact ⟨⟨none, 0, []⟩, rfl, rfl, SlK.nil⟩
  ·replace hc2 := nF hc2
   simp only [AnswerV.eta, MarkV.eta, CellV.eta, HeldV.eta, WaitV.eta, ServerV.eta, PeerV.eta, OpV.eta, ParcelV.eta, PostV.eta, WorkerV.eta] at hc2
   refine Zf ?_; refine Zav ?_; refine Zl ?_; refine Zf ?_
   refine Zag 24 rfl (fun hc3 => ?_) (fun hc3 => ?_)
   ·replace hc3 := dT hc3
    iterate 2 refine Zz ?_
    refine Zl ?_; refine Ze ?_; refine Zc ?_; refine Y_pk [27, 8, 7, 6, 0, 2] ?_; refine Zcy rfl ?_; refine Zj ?_; refine Za (l := [0, 1]) rfl ?_
    iterate 2 refine Zd ?_
    refine Ze ?_; refine Zc ?_; refine Y_pk [7, 6, 8, 0, 2] ?_; refine Zak ?_; refine Zba ?_
    refine Zaj (.inr rfl) (.tmp rfl (.tmp rfl .nil)) (fun w hw => ?_)
    refine ⟨_, M, rfl, Mem.le.refl M, hw.c, ?_⟩
    rw [show copiesR l_l x r = ([], 1) from copiesR_no (by rintro ⟨g1, g2, g3⟩; first | exact absurd g1 (by assumption) | omega | exact hcn (by assumption) g1)]
    exact ⟨⟨none, 0, []⟩, rfl, rfl, SlK.nil⟩
   ·replace hc3 := dF hc3
    refine Zf ?_; refine Zav ?_; refine Zl ?_; refine Ze ?_; refine Zc ?_; refine Y_pk [27, 8, 7, 6, 0, 2] ?_
    refine Zau rfl (fun hc4 => ?_) (fun hc4 => ?_)
    ·replace hc4 := dT hc4
     refine Zj ?_; refine Za (l := [0, 1]) rfl ?_
     iterate 2 refine Zd ?_
     refine Ze ?_; refine Zc ?_; refine Y_pk [7, 6, 8, 0, 2] ?_; refine Zak ?_; refine Zba ?_
     refine Zaj (.inr rfl) (.tmp rfl (.tmp rfl .nil)) (fun w hw => ?_)
     refine ⟨_, M, rfl, Mem.le.refl M, hw.c, ?_⟩
     rw [show copiesR l_l x r = ([], 1) from copiesR_no (by rintro ⟨g1, g2, g3⟩; first | exact absurd g1 (by assumption) | omega | exact hcn (by assumption) g1)]
     exact ⟨⟨none, 0, []⟩, rfl, rfl, SlK.nil⟩
    ·replace hc4 := dF hc4
     refine Zax ?_; refine Zc ?_; refine Y_pk [8, 7, 6, 0, 2] ?_; refine Zj ?_
     obtain ⟨rn, rfl⟩ : ∃ n : Nat, r = n := ⟨r.toNat, by omega⟩
     have hc : IsCircle l_l := by first | assumption | exact hcc (by assumption)
     have hc1 := hc.1
     obtain ⟨o9, hog⟩ : ∃ o, ownerI l_l x = o := ⟨_, rfl⟩
     have ho9 : o9 < l_l.length := by rw [← hog]; exact ownerI_lt (by omega)
     obtain ⟨rfl, rfl⟩ : ((o9 : Nat) : Int) = ow ∧ (0 : Int) = co := by unfold ownerR at howe; rw [if_pos hc, hog] at howe; exact ⟨congrArg Prod.fst howe, congrArg Prod.snd howe⟩
     refine Za (l := [0]) rfl ?_; refine Zd ?_; refine Ze ?_; refine Zc ?_
     iterate 2 refine Zj ?_
     refine Za (l := [0]) rfl ?_; refine Zd ?_; refine Ze ?_; refine Zc ?_; refine Zbe ?_; refine Y_pk [11, 10, 8, 7, 6, 0, 2] ?_; refine Zeo (Hin := []) (.succ (.succ .zero)) (by repeat first | exact Rem.here _ | exact Rem.two | apply Rem.skip | apply Rem.over) (fun (k : Nat) M1 h1 z => ∃ v, M1 = M ∧ z = [(11, .int .i64 (k : Int)), (10, v)] ∧ k ≤ rn ∧ k ≤ l_l.length ∧ OSl 3 1 v h1 (((List.range k).map fun k => (((o9 + k) % l_l.length : Nat) : Int)).map (oneI .i64))) (fun k => l_l.length - k) (0) (⟨_, rfl, rfl, by omega, by omega, OSl.nil⟩) ?_
     rintro k M1 h1 z hm1 ⟨v0, hM1, rfl, hk, hk2, ho⟩
     subst hM1
     obtain ⟨ad0, cp0, rfl⟩ := ho.val
     have hml : (((List.range k).map fun k => (((o9 + k) % l_l.length : Nat) : Int)).map (oneI .i64)).length = k := by simp
     rw [hml] at ho ⊢
     iterate 2 refine Zj ?_
     refine Za (l := [0, 1, 2, 3, 4, 5, 6, 7, 8]) rfl ?_
     iterate 2 refine Zf ?_
     refine Zav ?_; refine Zf ?_
     refine Zag 31 rfl (fun hc5 => ?_) (fun hc5 => ?_)
     ·replace hc5 := dT hc5
      iterate 2 refine Zf ?_
      refine Zbb F.elem27 ?_; refine Zav ?_; refine Zl ?_; refine Ze ?_; refine Zc ?_
      refine Zau rfl (fun hc6 => ?_) (fun hc6 => ?_)
      ·replace hc6 := dT hc6
       refine Zax ?_; refine Zc ?_; refine Zj ?_; refine Zbe ?_; refine Za (l := [0, 1, 2, 3, 4, 5, 6, 7, 8, 9]) rfl ?_
       iterate 3 refine Zf ?_
       refine Zcc rfl rfl rfl rfl rfl (by exact Zbf (by decide) (by omega)) rfl ?_; refine Zf ?_; refine Zbb F.elem27 ?_; refine X_rem rfl rfl rfl rfl (by omega) (by exact rem_nn (by omega)) rfl ?_
       have hq0 : (((o9 : Nat) : Int) + (k : Int)) % (l_l.length : Int) = (((o9 + k) % l_l.length : Nat) : Int) := by rw [Int.natCast_emod]; first | rfl | (congr 1; omega)
       rw [hq0]
       refine Zbt rfl rfl F.elem52 F.zero3 rfl rfl (.cons rfl (by constructor) .nil) rfl rfl (by simp only [List.map_cons, List.map_nil] <;> rfl) rfl ?_; intro b7 hob8
       refine Zdn (m := 1000000) rfl rfl rfl rfl rfl F.elem52 F.zero3 (by rfl) rfl (by assumption) (by repeat first | exact Rem.here _ | exact Rem.two | apply Rem.skip | apply Rem.over) (Src.own hob8.lens (by (refine Zdy ?_; (repeat (first | exact Zbp | refine Zcb ?_ | (refine Zam ?_ ?_; rfl))); done)) rfl (by repeat first | exact List.Mem.head _ | refine List.Mem.tail _ ?_ | refine List.mem_append_right _ ?_)) (by (simp; omega)) (by decide) rfl ?_; intro v11 hs10 ho9; obtain ⟨adv11, cpv11, rfl⟩ := ho9.valAt (n := k + 1) (by (simp; done))
       refine Zd ?_; refine Ze ?_; refine Zde ?_; refine Zc ?_; refine Za (l := [0, 1, 2]) rfl ?_; refine Zf ?_; refine Zcc rfl rfl rfl rfl rfl (by exact Zbf (by decide) (by omega)) rfl ?_; refine Zd ?_; refine Ze ?_; refine Zcr (a' := [(11, _), (10, _)]) (k + 1) (hs10) (.cons (k := 11) rfl (.cons (k := 10) rfl (.cons (k := 8) rfl (.cons (k := 7) rfl (.cons (k := 6) rfl (.cons (k := 0) rfl (.cons (k := 2) rfl (.nil)))))))) (by exact Mem.le.refl _) (fun w hw => by first | exact hw | exact hw.c) ?_ ?_
       ·refine ⟨_, rfl, rfl, by omega, by omega, ?_⟩
        rw [List.range_succ, List.map_append, List.map_append]
        exact ho9
       ·omega
      ·replace hc6 := dF hc6
       refine Zcm ?_
       iterate 2 refine Zcd ?_
       refine Zdl ?_; refine Zc ?_; refine Y_pk [10, 7, 6] ?_; refine Zj ?_; refine Za (l := [0, 1, 2]) rfl ?_; refine Zf ?_
       iterate 2 refine Zd ?_
       refine Ze ?_; refine Zc ?_; refine Y_pk [7, 6] ?_; refine Zak ?_
       refine Zaj (.inr rfl) (.tmp rfl (.tmp rfl .nil)) (fun w hw => ?_)
       obtain rfl : k = min rn l_l.length := by omega
       obtain ⟨M9, s1, g1, g2, g3, g4, g5⟩ := OSl.freezeK (f := oneI .i64) (H := H) (l := (List.range (min rn l_l.length)).map fun k => (((o9 + k) % l_l.length : Nat) : Int)) (ho) (hw.c)
       refine ⟨_, M9, rfl, g1, g2, ?_⟩
       rw [show copiesR l_l x ((rn : Nat) : Int) = _ from copiesR_yes hc (by omega) (by omega)]
       simp only [hog]
       exact ⟨s1, by rw [← g3]; rfl, g4, g5⟩
     ·replace hc5 := dF hc5
      iterate 4 refine Zz ?_
      refine Zl ?_; refine Ze ?_; refine Zc ?_; refine Zeu rfl ?_; refine Zcm ?_
      iterate 2 refine Zcd ?_
      refine Zdl ?_; refine Zc ?_; refine Y_pk [10, 7, 6] ?_; refine Zj ?_; refine Za (l := [0, 1, 2]) rfl ?_; refine Zf ?_
      iterate 2 refine Zd ?_
      refine Ze ?_; refine Zc ?_; refine Y_pk [7, 6] ?_; refine Zak ?_
      refine Zaj (.inr rfl) (.tmp rfl (.tmp rfl .nil)) (fun w hw => ?_)
      obtain rfl : k = min rn l_l.length := by omega
      obtain ⟨M9, s1, g1, g2, g3, g4, g5⟩ := OSl.freezeK (f := oneI .i64) (H := H) (l := (List.range (min rn l_l.length)).map fun k => (((o9 + k) % l_l.length : Nat) : Int)) (ho) (hw.c)
      refine ⟨_, M9, rfl, g1, g2, ?_⟩
      rw [show copiesR l_l x ((rn : Nat) : Int) = _ from copiesR_yes hc (by omega) (by omega)]
      simp only [hog]
      exact ⟨s1, by rw [← g3]; rfl, g4, g5⟩
end Go.Proofs.YtpkeilhilpogiaaGreat
namespace Go.Esp
def idxF {α : Type} (p : α → Bool) (l : List α) : Int := if l.any p then (l.findIdx p : Int) else -1
theorem idxF_at {α : Type} {p : α → Bool} {l : List α} {k : Nat} (hk : k < l.length) (h1 : ∀ j (h : j < k), p (l[j]'(by omega)) = false) (h2 : p l[k] = true) : idxF p l = k := by
  unfold idxF
  rw [if_pos (List.any_eq_true.2 ⟨_, List.getElem_mem hk, h2⟩)]
  congr 1
  exact (List.findIdx_eq hk).2 ⟨h2, fun j hj => by simpa using h1 j hj⟩
theorem idxF_none {α : Type} {p : α → Bool} {l : List α} (h : ∀ j (h : j < l.length), p l[j] = false) : idxF p l = -1 := by
  unfold idxF
  rw [if_neg]
  intro ha
  obtain ⟨x, hx, hp⟩ := List.any_eq_true.1 ha
  obtain ⟨j, hj, rfl⟩ := List.getElem_of_mem hx
  rw [h j hj] at hp; cases hp
def bsP {α : Type} (cmp : α → Int) (l : List α) (j : Nat) : Bool := match l[j]? with
  | some y => decide (0 ≤ cmp y)
  | none => false
theorem bsP_at {α : Type} {cmp : α → Int} {l : List α} {j : Nat} (h : j < l.length) : bsP cmp l j = decide (0 ≤ cmp l[j]) := by unfold bsP; rw [List.getElem?_eq_getElem h]
def bsAt {α : Type} (cmp : α → Int) (l : List α) : Nat := firstP (bsP cmp l) l.length
def bsIs {α : Type} (cmp : α → Int) (l : List α) : Bool := match l[bsAt cmp l]? with
  | some y => decide (cmp y = 0)
  | none => false
theorem bsIs_lt {α : Type} {cmp : α → Int} {l : List α} {a : Nat} (ha : bsAt cmp l = a) (h : a < l.length) : bsIs cmp l = decide (cmp l[a] = 0) := by subst ha; unfold bsIs; rw [List.getElem?_eq_getElem h]
theorem bsIs_ge {α : Type} {cmp : α → Int} {l : List α} {a : Nat} (ha : bsAt cmp l = a) (h : ¬ a < l.length) : bsIs cmp l = false := by subst ha; unfold bsIs; rw [List.getElem?_eq_none (by omega)]
end Go.Esp
namespace Go.Esp
structure Cel where
  version : Int
  has : Bool
  val : ByteArray
  marks : List MarkV
  deriving DecidableEq
def Cel.zero : Cel := ⟨0, false, ⟨#[]⟩, []⟩
def CellV.pl (c : CellV) : Cel := ⟨c.version, c.has, c.val, c.marks.l⟩
def AnsOk (a : AnswerV) : Prop := a.val = ⟨#[]⟩ ∧ (a.code = 0 ∨ a.code = 8)
instance (a : AnswerV) : Decidable (AnsOk a) := by unfold AnsOk; exact inferInstance
def MarkOk (m : MarkV) : Prop := (0 ≤ m.client ∧ m.client ≤ 63) ∧ AnsOk m.answer
instance (m : MarkV) : Decidable (MarkOk m) := by unfold MarkOk; exact inferInstance
def MarksOk (l : List MarkV) : Prop := (∀ m ∈ l, MarkOk m) ∧ l.Pairwise (fun x y => x.client < y.client)
instance (l : List MarkV) : Decidable (MarksOk l) := by unfold MarksOk; exact inferInstance
def ValOk (v : ByteArray) (has : Bool) : Prop := (v.size : Int) ≤ 2048 ∧ (has = true ∨ v = ⟨#[]⟩)
instance (v : ByteArray) (has : Bool) : Decidable (ValOk v has) := by unfold ValOk; exact inferInstance
def IsCel (c : Cel) : Prop := ValOk c.val c.has ∧ MarksOk c.marks
instance (c : Cel) : Decidable (IsCel c) := by unfold IsCel; exact inferInstance
theorem Zfa {l : List MarkV} {k : Nat} (hk : k < l.length) : MarksOk (l.take (k + 1)) ↔ MarksOk (l.take k) ∧ MarkOk l[k] ∧ ∀ h : 0 < k, (l[k - 1]'(by omega)).client < l[k].client := by
  have e : l.take (k + 1) = l.take k ++ [l[k]] := by rw [List.take_add_one, List.getElem?_eq_getElem hk]; rfl
  rw [e]
  unfold MarksOk
  simp only [List.mem_append, List.mem_singleton, List.pairwise_append, List.pairwise_singleton]
  constructor
  · rintro ⟨h1, h2, _, h3⟩
    refine ⟨⟨fun m hm => h1 m (.inl hm), h2⟩, h1 _ (.inr rfl), fun h => h3 _ ?_ _ rfl⟩
    rw [List.mem_take_iff_getElem]
    exact ⟨k - 1, by omega, rfl⟩
  · rintro ⟨⟨h1, h2⟩, h3, h4⟩
    refine ⟨fun m hm => ?_, h2, trivial, fun m hm q hq => ?_⟩
    · rcases hm with hm | rfl
      · exact h1 m hm
      · exact h3
    · subst hq
      rw [List.mem_take_iff_getElem] at hm
      obtain ⟨j, hj, rfl⟩ := hm
      have hjk : j < k := by omega
      have hlast := h4 (by omega)
      rcases Nat.lt_or_ge j (k - 1) with h | h
      · have := (List.pairwise_iff_getElem.1 h2) j (k - 1) (by simp; omega) (by simp; omega) h
        simp only [List.getElem_take] at this
        omega
      · have : j = k - 1 := by omega
        subst this; exact hlast
theorem marks_pre {l : List MarkV} (h : MarksOk l) (k : Nat) : MarksOk (l.take k) := ⟨fun m hm => h.1 m (List.mem_of_mem_take hm), h.2.sublist (List.take_sublist k l)⟩
def clt (l : List MarkV) (c : Int) (j : Nat) : Bool := match l[j]? with
  | some m => decide (c ≤ m.client)
  | none => false
theorem clt_at {l : List MarkV} {c : Int} {j : Nat} (h : j < l.length) : clt l c j = decide (c ≤ l[j].client) := by unfold clt; rw [List.getElem?_eq_getElem h]
def atM (l : List MarkV) (c : Int) : Nat := firstP (clt l c) l.length
def isM (l : List MarkV) (c : Int) : Bool := match l[atM l c]? with
  | some m => decide (m.client = c)
  | none => false
theorem isM_at {l : List MarkV} {c : Int} (h : atM l c < l.length) : isM l c = decide (l[atM l c].client = c) := by unfold isM; rw [List.getElem?_eq_getElem h]
theorem Zgt {l : List MarkV} {c : Int} (h : isM l c = true) : atM l c < l.length := by
  unfold isM at h
  split at h
  · rename_i m hm; exact (List.getElem?_eq_some_iff.1 hm).1
  · cases h
theorem atM_le (l : List MarkV) (c : Int) : atM l c ≤ l.length := (firstP_spec _ _).1
theorem atM_bs (l : List MarkV) (c : Int) : bsAt (fun m : MarkV => m.client - c) l = atM l c := by
  unfold bsAt atM
  congr 1
  funext j
  unfold bsP clt
  cases l[j]? with
  | none => rfl
  | some m => exact decide_eq_decide.2 (show 0 ≤ m.client - c ↔ c ≤ m.client by omega)
theorem isM_bs (l : List MarkV) (c : Int) : bsIs (fun m : MarkV => m.client - c) l = isM l c := by
  unfold bsIs isM
  rw [atM_bs]
  cases l[atM l c]? with
  | none => rfl
  | some m => exact decide_eq_decide.2 (show m.client - c = 0 ↔ m.client = c by omega)
theorem marks_mono {l : List MarkV} (h : MarksOk l) {c : Int} (i j : Nat) (hi : i < l.length) (hj : j < l.length) (hij : i ≤ j) (h0 : 0 ≤ l[i].client - c) : 0 ≤ l[j].client - c := by
  rcases Nat.lt_or_ge i j with h9 | h9
  · have := (List.pairwise_iff_getElem.1 h.2) i j hi hj h9; omega
  · obtain rfl : i = j := by omega
    exact h0
def putM (l : List MarkV) (m : MarkV) : List MarkV := l.take (atM l m.client) ++ m :: l.drop (if isM l m.client then atM l m.client + 1 else atM l m.client)
theorem putM_is {l : List MarkV} {m : MarkV} (h : isM l m.client = true) : putM l m = l.set (atM l m.client) m := by
  unfold putM
  rw [if_pos h, List.set_eq_take_append_cons_drop, if_pos (Zgt h)]
theorem putM_not {l : List MarkV} {m : MarkV} (h : isM l m.client = false) : putM l m = l.take (atM l m.client) ++ m :: l.drop (atM l m.client) := by
  unfold putM
  rw [if_neg (by simp [h])]
theorem putM_ok {l : List MarkV} (h : MarksOk l) {m : MarkV} (hm : MarkOk m) : MarksOk (putM l m) := by
  obtain ⟨g1, g2, g3⟩ := firstP_spec (clt l m.client) l.length
  have e : atM l m.client = firstP (clt l m.client) l.length := rfl
  rw [← e] at g1 g2 g3
  have hpre : ∀ x ∈ l.take (atM l m.client), x.client < m.client := fun x hx => by
    rw [List.mem_take_iff_getElem] at hx
    obtain ⟨j, hj, rfl⟩ := hx
    have := g2 j (by omega)
    rw [clt_at (by omega)] at this
    simp at this; omega
  have hpost : ∀ x ∈ l.drop (if isM l m.client then atM l m.client + 1 else atM l m.client), m.client < x.client := fun x hx => by
    obtain ⟨j, hj, rfl⟩ := List.getElem_of_mem hx
    rw [List.getElem_drop]
    rw [List.length_drop] at hj
    split at hj
    · rename_i hi
      have hlt := Zgt hi
      have h0 : l[atM l m.client].client = m.client := by rw [isM_at hlt] at hi; simpa using hi
      simp only [hi, if_true]
      have := (List.pairwise_iff_getElem.1 h.2) (atM l m.client) (atM l m.client + 1 + j) hlt (by omega) (by omega)
      omega
    · rename_i hi
      simp only [hi, if_false, Bool.false_eq_true]
      have hlt : atM l m.client < l.length := by omega
      have h1 := g3 hlt
      rw [clt_at hlt] at h1
      have h2 : l[atM l m.client].client ≠ m.client := by rw [isM_at hlt] at hi; simpa using hi
      have h3 : m.client < l[atM l m.client].client := by simp at h1; omega
      rcases Nat.eq_zero_or_pos j with rfl | hj0
      · exact h3
      · have := (List.pairwise_iff_getElem.1 h.2) (atM l m.client) (atM l m.client + j) hlt (by omega) (by omega)
        omega
  refine ⟨fun x hx => ?_, ?_⟩
  · unfold putM at hx
    simp only [List.mem_append, List.mem_cons] at hx
    rcases hx with hx | rfl | hx
    · exact h.1 x (List.mem_of_mem_take hx)
    · exact hm
    · exact h.1 x (List.mem_of_mem_drop hx)
  · unfold putM
    rw [List.pairwise_append]
    refine ⟨h.2.sublist (List.take_sublist _ _), List.pairwise_cons.2 ⟨hpost, h.2.sublist (List.drop_sublist _ _)⟩, fun x hx y hy => ?_⟩
    have h1 := hpre x hx
    rcases List.mem_cons.1 hy with rfl | hy
    · exact h1
    · have := hpost y hy; omega
def ofM (l : List MarkV) (c : Int) : Option MarkV := l.find? fun m => decide (m.client = c)
theorem ofM_is {l : List MarkV} (h : MarksOk l) {c : Int} : ofM l c = if hi : isM l c = true then some (l[atM l c]'(Zgt hi)) else none := by
  obtain ⟨g1, g2, g3⟩ := firstP_spec (clt l c) l.length
  have e : atM l c = firstP (clt l c) l.length := rfl
  rw [← e] at g1 g2 g3
  split
  · rename_i hi
    have hlt := Zgt hi
    have h0 : l[atM l c].client = c := by rw [isM_at hlt] at hi; simpa using hi
    unfold ofM
    rw [List.find?_eq_some_iff_getElem]
    refine ⟨by simpa using h0, atM l c, hlt, rfl, fun j hj => ?_⟩
    have := (List.pairwise_iff_getElem.1 h.2) j (atM l c) (by omega) hlt hj
    simp; omega
  · rename_i hi
    unfold ofM
    rw [List.find?_eq_none]
    intro x hx hc
    simp only [decide_eq_true_eq] at hc
    obtain ⟨j, hj, rfl⟩ := List.getElem_of_mem hx
    rcases Nat.lt_trichotomy j (atM l c) with h9 | h9 | h9
    · have := g2 j h9
      rw [clt_at hj] at this
      simp at this; omega
    · subst h9
      apply hi
      rw [isM_at hj]; simpa using hc
    · have hlt : atM l c < l.length := by omega
      have h1 := g3 hlt
      rw [clt_at hlt] at h1
      have h2 := (List.pairwise_iff_getElem.1 h.2) (atM l c) j hlt hj h9
      simp at h1; omega
theorem ofM_first {l : List MarkV} {c : Int} {k : Nat} (hk : k < l.length) (h1 : ∀ j (h2 : j < l.length), j < k → ¬ l[j].client = c) (h3 : l[k].client = c) : ofM l c = some l[k] := by
  unfold ofM
  rw [List.find?_eq_some_iff_getElem]
  exact ⟨by simpa using h3, k, hk, rfl, fun j hj => by simpa using h1 j (by omega) hj⟩
theorem ofM_none {l : List MarkV} {c : Int} (h : ∀ j (h2 : j < l.length), ¬ l[j].client = c) : ofM l c = none := by
  unfold ofM
  rw [List.find?_eq_none]
  intro x hx
  obtain ⟨j, hj, rfl⟩ := List.getElem_of_mem hx
  simpa using h j hj
def ofX (l : List MarkV) (c : Int) : MarkV × Bool := match ofM l c with
  | some m => (m, true)
  | none => (MarkV.zero, false)
theorem ofX_none {l : List MarkV} {c : Int} {x : MarkV} (h : ofX l c = (x, false)) : ofM l c = none := by
  unfold ofX at h
  split at h
  · cases h
  · assumption
theorem ofX_some {l : List MarkV} {c : Int} {x : MarkV} (h : ofX l c = (x, true)) : ofM l c = some x := by
  unfold ofX at h
  split at h
  · rename_i m hm; rw [hm]; cases h; rfl
  · cases h
def ofXv (r : MarkV × Bool) : Value := .tuple #[r.1.enc, .bool r.2]
def addM (a : List MarkV) (out : List MarkV) (m : MarkV) : List MarkV := match ofM a m.client with
  | some x => if x.req < m.req then putM out m else out
  | none => putM out m
def mergeM (a b : List MarkV) : List MarkV := b.foldl (addM a) a
theorem addM_ok {a out : List MarkV} {m : MarkV} (h : MarksOk out) (hm : MarkOk m) : MarksOk (addM a out m) := by
  unfold addM
  split
  · split
    · exact putM_ok h hm
    · exact h
  · exact putM_ok h hm
theorem foldM_ok {a : List MarkV} : ∀ {b out : List MarkV}, MarksOk out → (∀ m ∈ b, MarkOk m) → MarksOk (b.foldl (addM a) out)
  | [], out, h, _ => h
  | m :: b, out, h, hb => by
    rw [List.foldl_cons]
    exact foldM_ok (b := b) (addM_ok h (hb m (.head _))) fun x hx => hb x (.tail _ hx)
theorem Zet {a : List MarkV} {b out : List MarkV} {k : Nat} (hk : k < b.length) : (b.take (k + 1)).foldl (addM a) out = addM a ((b.take k).foldl (addM a) out) b[k] := by
  rw [List.take_add_one, List.getElem?_eq_getElem hk, List.foldl_append]; rfl
theorem marks_len {l : List MarkV} (h : MarksOk l) : l.length ≤ 64 := by
  have key : ∀ (k : Nat) (hk : k < l.length), (k : Int) ≤ l[k].client := by
    intro k
    induction k with
    | zero => intro hk; exact (h.1 _ (List.getElem_mem hk)).1.1
    | succ k ih =>
      intro hk
      have h1 := ih (by omega)
      have h2 := (List.pairwise_iff_getElem.1 h.2) k (k + 1) (by omega) hk (by omega)
      omega
  rcases Nat.lt_or_ge 64 l.length with h9 | h9
  · have h1 := key 64 h9
    have h2 := (h.1 _ (List.getElem_mem h9)).1.2
    omega
  · exact h9
def mergeC (a b : Cel) : Cel := if a.version < b.version then ⟨b.version, b.has, b.val, mergeM a.marks b.marks⟩ else ⟨a.version, a.has, a.val, mergeM a.marks b.marks⟩
def mergeR (a b : Cel) : Cel × Int := if IsCel a ∧ IsCel b then (mergeC a b, 0) else (Cel.zero, 1)
end Go.Esp
namespace Go.Esp
theorem OSl.extend {T sz b c : Nat} {hs : Hp} {rows : List Segs} (h : OSl T sz (.slice (some ⟨b, 0, none⟩) rows.length c) hs rows) {m : Nat} (hm : rows.length + m ≤ c) :
    ∃ ext : List Segs, ext.length = m ∧ OSl T sz (.slice (some ⟨b, 0, none⟩) (rows.length + m) c) hs (rows ++ ext) := by
  obtain ⟨cur, rfl, _, hl, h2, h3, h4, h5⟩ := h.inv
  have key : ∀ (m off : Nat) , off + m * sz ≤ cur.size → ∃ ext : List Segs, ext.length = m ∧ Esp.lens sz ext ∧ rowsCells ext = (cur.toList.drop off).take (m * sz) := by
    intro m
    induction m with
    | zero => intro off _; exact ⟨[], rfl, fun r hr => (by cases hr), by simp [rowsCells]⟩
    | succ m ih =>
      intro off ho
      have e : (m + 1) * sz = sz + m * sz := by rw [Nat.add_mul]; omega
      obtain ⟨ext, g1, g2, g3⟩ := ih (off + sz) (by omega)
      refine ⟨ones ((cur.toList.drop off).take sz) :: ext, by simp [g1], fun r hr => ?_, ?_⟩
      · rcases List.mem_cons.1 hr with rfl | hr
        · rw [← Segs.cells_length, ones_cells, List.length_take, List.length_drop, Array.length_toList]; omega
        · exact g2 r hr
      · simp only [rowsCells, ones_cells, g3, e]
        rw [List.take_add, List.drop_drop]
  obtain ⟨ext, g1, g2, g3⟩ := key m (rows.length * sz) (by rw [h4, ← Nat.add_mul]; exact Nat.mul_le_mul_right _ hm)
  refine ⟨ext, g1, ?_⟩
  have hlen : (rows ++ ext).length = rows.length + m := by simp [g1]
  rw [← hlen]
  refine OSl.own b c (rows ++ ext) cur (hl.append g2) (by omega) h3 h4 ?_
  rw [hlen, Nat.add_mul, List.take_add, h5, ← g3, Zdh]
theorem OSl.as9 {T sz : Nat} {v : Value} {hs : Hp} {rows rows' : List Segs} (h : OSl T sz v hs rows) (e : rows = rows') : OSl T sz v hs rows' := e ▸ h
section
variable {P : Program} {n : Sh} {ops : Array Oper} {Q : Exit → Act → World → Prop} {rest : List Nat} {M M' : Mem} {H H' H0 : Hp} {e : Env} {J S : World → Prop} {A : As} {i : Nat}
  {dst : Option Tmp} {d : Tmp} {op : Op} {ty : TypeId} {pos : String} {af : Array Edge} {gd : Option (Nat × Bool)}
theorem X_copyP {t t' E sz by_ : Nat} {x y : Operand} {b k l' c' l2 c2 c l off : Nat} {ad : Addr} {hs : Hp} {rows news : List Segs} {ats : Array TypeId} (hi : ops[i]? = some ⟨some d, .call ⟨.builtin .copy, #[x, y], ats⟩, ty, pos, af, gd⟩) (hg : want ops e gd = some true)
    (hx : ev e x = some (.slice (some ⟨b, off, Option.none⟩) l' c')) (hy : ev e y = some (.slice (some ad) l2 c2)) (hat : ats = #[t, t']) (ht : slOf P t = some (E, sz, by_)) (hoff : off = k * sz) (hkl : k + l' ≤ rows.length) (ho : OSl E sz (.slice (some ⟨b, 0, Option.none⟩) l c) hs rows) (hH : Rem hs H H0)
    (hsrc : Src M H sz (.slice (some ad) news.length c2) news) (hm : news.length = min l2 l') (hd : Nat.ble (d + 1) n.sz = true)
    (hk : ∀ hs', OSl E sz (.slice (some ⟨b, 0, Option.none⟩) rows.length c) hs' (rows.take k ++ news ++ rows.drop (k + news.length)) → XD P n ops Q rest (St M (hs' ++ H0)) ⟨M, hs' ++ H0⟩ ((d, .int .i64 (news.length : Int)) :: e)) (hnw : n.wrs.contains i = false := by rfl) : XD P n ops Q (i :: rest) J ⟨M, H⟩ e := by
  subst hat hoff
  refine Zgv hi rfl hg (fun a w ha hw => ?_) hnw
  obtain ⟨it, hu, hit, rfl, rfl⟩ := Zfd ht
  obtain ⟨hln, h1, ad', c2', e9, hsr⟩ := hsrc
  obtain ⟨rfl, _, rfl⟩ : ad = ad' ∧ True ∧ c2 = c2' := by simpa using e9
  obtain ⟨cur, rfl, rfl, hlr, hcap, hcm, hcs, htake⟩ := ho.inv
  have hst := hw.perm hH.perm
  have hb := hst.own b _ (List.mem_append_left _ (.head _))
  have hcl : (rowsCells news).length = news.length * it.size := Zcg hln
  have hle : k * it.size + news.length * it.size ≤ rows.length * it.size := by rw [← Nat.add_mul]; exact Nat.mul_le_mul_right _ (by omega)
  have hrc : rows.length * it.size ≤ c * it.size := Nat.mul_le_mul_right _ hcap
  have hload := run_loadCells_list (P := P) w ad (rowsCells news) (fun j v hj => hsr w hw j v hj)
  have hstore := run_storeCells_at P b (k * it.size) E (rowsCells news) 0 cur w hb (by omega) h1
  have ho' := rowSplice (T := E) (b := b) (k := k) (news := news) hlr hln hcap hcm hcs htake (by omega)
  rw [hcl] at hload
  have hr : (Builtin.copy_ #[t, t'] ty #[.slice (some ⟨b, k * it.size, Option.none⟩) l' c', .slice (some ad) l2 c2]).run P w = .ok (goInt news.length) (w.setRow b (cur.toList.take (k * it.size) ++ rowsCells news ++ cur.toList.drop (k * it.size + (rowsCells news).length)).toArray) := by
    have e9 : Nat.min l2 l' = news.length := hm.symm
    simp [Builtin.copy_, run_underlying hu, Builtin.lenOf, Builtin.firstCells, sizeOf, typeInfo, hit, e9, hload]
    have h5 := hstore
    simp only [Nat.add_zero, List.append_assoc] at h5
    rw [h5]; rfl
  unfold Oper.does
  have : (execOp a.eval ⟨some d, .call ⟨.builtin .copy, #[x, y], #[t, t']⟩, ty, pos, af, gd⟩).run P w = .ok (.value (.int .i64 (news.length : Int))) (w.setRow b (cur.toList.take (k * it.size) ++ rowsCells news ++ cur.toList.drop (k * it.size + (rowsCells news).length)).toArray) := by
    simp only [execOp, resolve]
    simp only [invoke, builtin]
    have e1 : #[x, y].map a.eval = #[.slice (some ⟨b, k * it.size, Option.none⟩) l' c', .slice (some ad) l2 c2] := by simp [ha.ev hx, ha.ev hy]
    rw [e1]
    rw [Sem.run_bind]
    show (Result.ok _ w).andThen _ = _
    rw [Result.andThen_ok]
    exact Zfm hr
  rw [this]
  refine ⟨⟨M, _⟩, _, ?_, ha.put hd _, hk _ ho'⟩
  exact hst.upd .head (setRow_heap w b cur _ E _ hb) (fun c hc x hx => by rw [setRow_other w b c _ hc]; exact hx) (SameIO.refl _)
theorem X_appendZO {t tn E sz by_ j k c : Nat} {z : Value} {kn : IntKind} {x y : Operand} {b l : Nat} {hs : Hp} {rows : List Segs} (hi : ops[i]? = some ⟨some d, .call ⟨.builtin .append, #[x, y], #[t, tn]⟩, ty, pos, af, gd⟩) (hg : want ops e gd = some true)
    (hx : ev e x = some (.slice (some ⟨b, 0, Option.none⟩) j c)) (hy : ev e y = some (.int .i64 (k : Int))) (ht : slOf P t = some (E, sz, by_)) (htn : P.underlying tn = some (.int kn)) (hz : zeroOf P E = some z) (hzs : z.cells.size = sz) (hsz : Nat.ble 1 sz = true)
    (ho : OSl E sz (.slice (some ⟨b, 0, Option.none⟩) l c) hs rows) (hH : Rem hs H H0) (hj : j ≤ rows.length) (h0 : 0 < k) (hgr : c < j + k) (hk9 : j + k ≤ 16777216) (hkb : (j + k) * by_ ≤ 140737488355328) (hd : Nat.ble (d + 1) n.sz = true)
    (hk : ∀ (b' c' : Nat) hs' (zs : List Segs), zs.length = k → OSl E sz (.slice (some ⟨b', 0, Option.none⟩) (j + k) c') hs' (rows.take j ++ zs) → XD P n ops Q rest (St M (hs' ++ H)) ⟨M, hs' ++ H⟩ ((d, .slice (some ⟨b', 0, Option.none⟩) (j + k) c') :: e)) (hnw : n.wrs.contains i = false := by rfl) : XD P n ops Q (i :: rest) J ⟨M, H⟩ e := by
  refine Zgv hi rfl hg (fun a w ha hw => ?_) hnw
  obtain ⟨it, hu, hit, rfl, rfl⟩ := Zfd ht
  have hz' : it.zero = some z := by simpa [zeroOf, hit] using hz
  have hpos : 1 ≤ it.size := Nat.le_of_ble_eq_true hsz
  obtain ⟨cur, rfl, _, hl, h2, h3, h4, h5⟩ := ho.inv
  have hst := hw.perm hH.perm
  have hb := hst.own b _ (List.mem_append_left _ (.head _))
  have hlt : Esp.lens it.size (rows.take j) := fun r hr => hl r (List.mem_of_mem_take hr)
  have hjl : (rows.take j).length = j := by simp; omega
  have hcell := rowsCells_take hl hj
  have hole : (rowsCells (rows.take j)).length = j * it.size := by rw [Zcg hlt, hjl]
  have hold := run_loadCells_list (P := P) (w := w.drew) ⟨b, 0, Option.none⟩ (rowsCells (rows.take j)) (cellsAt (w := w.drew) (b := b) (off := 0) (n := j * it.size) hb (by
    rw [List.drop_zero, hcell, ← h5, List.take_take]
    congr 1
    have h6 : j * it.size ≤ rows.length * it.size := Nat.mul_le_mul_right _ hj
    omega))
  rw [hole] at hold
  have hr := Lib.run_append_grow_zeros (P := P) w t tn ty E it z .i64 kn hu htn hit hz' (some ⟨b, 0, Option.none⟩) j c (rowsCells (rows.take j)) hold k h0 hpos hgr (by omega) (by
    have : k * it.bytes ≤ (j + k) * it.bytes := Nat.mul_le_mul_right _ (by omega)
    omega) (growslice_fits hgr hkb)
  have hzsz : z.cells.size = it.size := hzs
  have hge := grownCap_ge w (j + k) c E
  have hcm : grownCap w (j + k) c E ≤ maxLen := grownCap_le_maxLen w (j + k) c E (by simp only [maxLen]; omega)
  obtain ⟨zs, hzl, hlz, hrz⟩ : ∃ zs : List Segs, zs.length = k ∧ Esp.lens it.size zs ∧ rowsCells zs = (Builtin.zeroCells z.cells k).toList := by
    refine ⟨onesAll (fun i => z.cells[i % z.cells.size]!) it.size k, by simp [onesAll], fun r hr => ?_, ?_⟩
    · obtain ⟨q, _, rfl⟩ := List.mem_map.1 hr
      exact onesOf_len _ q it.size
    · rw [onesAll_cells]; simp [Builtin.zeroCells, hzsz]
  have hlen : (rows.take j ++ zs).length = j + k := by simp [hzl]; omega
  have h0' : St M H w.drew := hw.heap rfl ⟨rfl, rfl, rfl, Nat.le_succ _⟩
  have h2' := h0'.alloc (.cells ((rowsCells (rows.take j)).toArray ++ Builtin.zeroCells z.cells k ++ Builtin.zeroCells z.cells (grownCap w (j + k) c E - (j + k))) E)
  have ho' : OSl E it.size (.slice (some ⟨w.heap.size, 0, none⟩) (j + k) (grownCap w (j + k) c E)) [(w.heap.size, .cells ((rowsCells (rows.take j)).toArray ++ Builtin.zeroCells z.cells k ++ Builtin.zeroCells z.cells (grownCap w (j + k) c E - (j + k))) E (0, 0))] (rows.take j ++ zs) := by
    rw [← hlen] at hge hcm ⊢
    refine OSl.own _ _ _ _ (hlt.append hlz) hge hcm ?_ ?_
    · simp only [Array.size_append, List.size_toArray, size_zeroCells, hzsz, hole]
      rw [hlen] at hge ⊢
      rw [← Nat.add_mul, ← Nat.add_mul]; congr 1; omega
    · simp only [Array.toList_append]
      rw [← Zcg (hlt.append hlz), Zdh, hrz]
      exact List.take_left
  unfold Oper.does
  have : (execOp a.eval ⟨some d, .call ⟨.builtin .append, #[x, y], #[t, tn]⟩, ty, pos, af, gd⟩).run P w = .ok (.value (.slice (some ⟨w.heap.size, 0, none⟩) (j + k) (grownCap w (j + k) c E))) (w.drew.alloc (.cells ((rowsCells (rows.take j)).toArray ++ Builtin.zeroCells z.cells k ++ Builtin.zeroCells z.cells (grownCap w (j + k) c E - (j + k))) E)) := by
    simp only [execOp, resolve]
    simp only [invoke, builtin]
    have e1 : #[x, y].map a.eval = #[.slice (some ⟨b, 0, Option.none⟩) j c, .int .i64 (k : Int)] := by simp [ha.ev hx, ha.ev hy]
    rw [e1]
    rw [Sem.run_bind]
    show (Result.ok _ w).andThen _ = _
    rw [Result.andThen_ok]
    exact Zfm hr
  rw [this]
  exact ⟨⟨M, _⟩, _, h2', ha.put hd _, hk _ _ _ zs hzl ho'⟩
theorem run_apart {tS tR E sz by_ b b' l c k lb cb la ca : Nat} {hs : Hp} {rows : List Segs} {cur : Array Value} {T : TypeId} {w : World} (ht : slOf P tS = some (E, sz, by_)) (ho : OSl E sz (.slice (some ⟨b, 0, Option.none⟩) l c) hs rows) (hH : Rem hs H H0) (hv : (b', .cells cur T (0, 0)) ∈ H0) (hpos : 0 < c * sz) (hw : St M H w) :
    (Extern.SlicesOverlaps.overlaps #[tS, tS] #[tR] #[.slice (some ⟨b', 0, Option.none⟩) la ca, .slice (some ⟨b, k, Option.none⟩) lb cb]).run P w = .ok (.bool false) w := by
  obtain ⟨it, hu, hit, rfl, rfl⟩ := Zfd ht
  obtain ⟨cu, rfl, _, hl, h2, h3, h4, h5⟩ := ho.inv
  have hst := hw.perm hH.perm
  have hb := hst.own b _ (List.mem_append_left _ (.head _))
  have hb' := hst.own b' _ (List.mem_append_right _ hv)
  have hne : b' ≠ b := fun e => by
    subst e
    have h := hst.nodup
    rw [List.map_append, List.nodup_append] at h
    exact h.2.2 b' (by simp) b' (List.mem_map_of_mem hv) rfl
  refine Lib.run_overlaps_apart w tS tR E hu it.size (fun w => run_sizeOf' hit) ⟨b', 0, Option.none⟩ ⟨b, k, Option.none⟩ la ca lb cb hne T E cur.size cu.size ?_ ?_ (by omega) ?_ ?_
  · simp [World.shape?, hb']
  · simp [World.shape?, hb]
  · simp [World.frozen?, hb']
  · simp [World.frozen?, hb']
end
theorem Fs.foE {P : Program} {f : FuncId} {vs : List Value} {M : Mem} {R : Value → Prop} (h : Fs P f vs M R) (Hin : Hp) : Fo P f vs M Hin (fun M' v => M' = M ∧ R v) := fun H w hw =>
  (h (Hin ++ H) w hw).mono fun _ _ ⟨v, he, hs, hr⟩ => ⟨v, M, he, Mem.le.refl M, hs, rfl, hr⟩
end Go.Esp
namespace Go.Esp
section
variable {P : Program} {n : Sh} {ops : Array Oper} {Q : Exit → Act → World → Prop} {rest : List Nat} {M M' : Mem} {H H' H0 : Hp} {e : Env} {J S : World → Prop} {A : As} {i : Nat}
  {dst : Option Tmp} {d : Tmp} {op : Op} {ty : TypeId} {pos : String} {af : Array Edge} {gd : Option (Nat × Bool)}
def byteVs (s : ByteArray) : List Value := s.data.toList.map fun b => .int .u8 (b.toNat : Int)
def arOfN (P : Program) (t : TypeId) : Option (Nat × TypeId × Nat) := match P.underlying t with
  | some (.array k el) => match P.info? el with
    | some i => some (k, el, i.size)
    | none => none
  | _ => none
def u8R (n : Nat) : Segs := [.one (.int .u8 (n : Int))]
end
def natsOf (s : ByteArray) : List Nat := s.data.toList.map fun b => b.toNat
def u32R (n : Nat) : Segs := [.one (.int .u32 (n : Int))]
end Go.Esp
namespace Go.Esp
variable {α : Type}
def insL (l : List α) (i : Nat) (x : α) : List α := l.take i ++ x :: l.drop i
theorem insL_map {β : Type} (f : α → β) (l : List α) (i : Nat) (x : α) : (insL l i x).map f = insL (l.map f) i (f x) := by unfold insL; simp
theorem insL_end (l : List α) (x : α) : insL l l.length x = l ++ [x] := by unfold insL; simp
theorem take_pre {a b : List α} {i : Nat} (h : a.length = i) : (a ++ b).take i = a := by subst h; exact List.take_left
theorem drop_pre {a b : List α} {i : Nat} (h : a.length = i) : (a ++ b).drop i = b := by subst h; exact List.drop_left
theorem ins_grow {rows zs : List α} {i : Nat} {x : α} (hi : i < rows.length) (hz : zs.length = rows.length + 1 - i) :
    (((rows.take i ++ zs).take i ++ [x] ++ (rows.take i ++ zs).drop (i + 1)).take (i + 1) ++ rows.drop i ++ ((rows.take i ++ zs).take i ++ [x] ++ (rows.take i ++ zs).drop (i + 1)).drop (i + 1 + (rows.drop i).length)) = insL rows i x := by
  have h1 : (rows.take i).length = i := by simp; omega
  rw [take_pre h1]
  have h2 : (rows.take i ++ [x]).length = i + 1 := by simp; omega
  rw [take_pre h2]
  have h3 : (rows.take i ++ zs).length = rows.length + 1 := by simp [hz]; omega
  rw [List.drop_of_length_le (i := i + 1 + (rows.drop i).length) (by simp only [List.length_append, List.length_drop, h3, h2, List.length_cons, List.length_nil, h1]; omega)]
  unfold insL; simp
theorem ins_room {rows ext : List α} {i : Nat} {x : α} (hi : i < rows.length) (he : ext.length = 1) :
    (((rows ++ ext).take (i + 1) ++ rows.drop i ++ (rows ++ ext).drop (i + 1 + (rows.drop i).length)).take i ++ [x] ++ ((rows ++ ext).take (i + 1) ++ rows.drop i ++ (rows ++ ext).drop (i + 1 + (rows.drop i).length)).drop (i + 1)) = insL rows i x := by
  have h1 : ((rows ++ ext).take (i + 1)).length = i + 1 := by simp; omega
  rw [List.drop_of_length_le (i := i + 1 + (rows.drop i).length) (by simp [he]; omega), List.append_nil, drop_pre h1]
  rw [List.take_append_of_le_length (by omega), List.take_take, Nat.min_eq_left (by omega), List.take_append_of_le_length (by omega)]
  unfold insL; simp
end Go.Esp
namespace Go.Proofs.YtpkeilhilpogiaaGreat
open Go.Esp
theorem F.elem35 : slOf Tryz.prog 35 = some (92, 6, 56) := by kernel_rfl
theorem F.ext119 : Ext Tryz.prog 119 (Extern.SlicesOverlaps.overlaps #[35, 35] #[4]) := fun args w => by kernel_rfl
theorem F.zero92 : zeroOf Tryz.prog 92 = some (aggV [.one (.int .i64 0), .one (.int .u64 0), .one (.int .i64 0), .one (.int .u64 0), .one (.bool false), .one (.string ⟨#[]⟩)]) := by kernel_rfl
theorem CloneK_nil (M : Mem) (c : Nat) (l : List MarkV) (k : SlK M MarkV.segs 6 ⟨none, c, l⟩) (hb : l.length ≤ 1000000) : Fh Tryz.prog 99 [.slice none l.length c] M [] (fun M' v Hout => M' = M ∧ OSl 92 6 v Hout (l.map MarkV.segs)) := by
  have hl0 : l = [] := SlM.none_nil k.h1
  subst hl0
  have hl0 : ([] : List MarkV).map MarkV.segs = [] := rfl
  refine Zfg Tryz.func99 rfl Tryz.ntmps99 rfl ?_; intro H
  refine Zj ?_; refine Za (l := [0]) rfl ?_; refine Zd ?_; refine Ze ?_; refine Zc ?_
  iterate 2 refine Zj ?_
  refine Za (l := [0, 1]) rfl ?_; refine Zf ?_; refine Y_nil Tryz.underlying35 ?_; refine Ze ?_; refine Zc ?_; refine Y_pk [4, 2, 0] ?_
  refine Zau rfl (fun hc1 => ?_) (fun hc1 => ?_)
  ·skip
   refine Zj ?_; refine Za (l := [0]) rfl ?_; refine Zd ?_; refine Ze ?_; refine Zc ?_; refine Y_pk [2, 0] ?_; refine Zak ?_; refine Zba ?_
   refine Zaj (.inr rfl) (.tmp rfl .nil) (fun w hw => ?_)
   exact ⟨_, M, [], rfl, Mem.le.refl M, hw.c, rfl, by rw [hl0]; exact OSl.nil⟩
  ·skip
   (exfalso; simp [eqX] at hc1; done)
theorem CloneK_some (M : Mem) (ad : Addr) (c : Nat) (l : List MarkV) (k : SlK M MarkV.segs 6 ⟨some ad, c, l⟩) (hb : l.length ≤ 1000000) : Fh Tryz.prog 99 [.slice (some ad) l.length c] M [] (fun M' v Hout => M' = M ∧ OSl 92 6 v Hout (l.map MarkV.segs)) := by
  have hml : l.length = (l.map MarkV.segs).length := (List.length_map ..).symm
  refine Zfg Tryz.func99 rfl Tryz.ntmps99 rfl ?_; intro H
  refine Zj ?_; refine Za (l := [0]) rfl ?_; refine Zd ?_; refine Ze ?_; refine Zc ?_
  iterate 2 refine Zj ?_
  refine Za (l := [0, 1]) rfl ?_; refine Zf ?_; refine Y_nil Tryz.underlying35 ?_; refine Ze ?_; refine Zc ?_; refine Y_pk [4, 2, 0] ?_
  refine Zau rfl (fun hc1 => ?_) (fun hc1 => ?_)
  ·skip
   (exfalso; simp [eqX] at hc1; done)
  ·skip
   refine Zax ?_; refine Zc ?_; refine Y_pk [2, 0] ?_; refine Zj ?_; refine Za (l := [0, 1, 2, 3]) rfl ?_
   refine Zbt rfl rfl F.elem35 F.zero92 rfl rfl (.nil) rfl rfl (by simp only [List.map_cons, List.map_nil] <;> rfl) rfl ?_; intro b2 hob3
   refine Zf ?_
   refine Zdn (m := 1000000) rfl rfl rfl rfl rfl F.elem35 F.zero92 (by rfl) rfl (by assumption) (by repeat first | exact Rem.here _ | exact Rem.two | apply Rem.skip | apply Rem.over) (SlM.src k.h1 (Zfi MarkV.flat _) hml) (by (simp; omega)) (by decide) rfl ?_; intro v6 hs5 ho4; obtain ⟨adv6, cpv6, rfl⟩ := ho4.val
   refine Zd ?_; refine Ze ?_; refine Zc ?_; refine Y_pk [2] ?_; refine Zak ?_
   refine Zaj (.inr rfl) (.tmp rfl .nil) (fun w hw => ?_)
   exact ⟨_, M, _, rfl, Mem.le.refl M, hw.c, rfl, by assumption⟩
theorem CloneK_ok (M : Mem) (a : Option Addr) (c : Nat) (l : List MarkV) (k : SlK M MarkV.segs 6 ⟨a, c, l⟩) (hb : l.length ≤ 1000000) : Fh Tryz.prog 99 [.slice a l.length c] M [] (fun M' v Hout => M' = M ∧ OSl 92 6 v Hout (l.map MarkV.segs)) := by
  cases a with
  |none => exact CloneK_nil M c l k hb
  |some ad => exact CloneK_some M ad c l k hb
theorem InsertK_nil (M : Mem) (x : MarkV) (bv : Nat) (hv : Hp) (hob : OSl 92 6 (.slice (some ⟨bv, 0, none⟩) 1 1) hv [MarkV.segs x]) : Fh Tryz.prog 111 [.slice none 0 0, .int .i64 ((0 : Nat) : Int), .slice (some ⟨bv, 0, none⟩) 1 1] M hv (fun M' v Hout => M' = M ∧ OSl 92 6 v Hout ([] ++ [MarkV.segs x])) := by
  refine Zfg Tryz.func111 rfl Tryz.ntmps111 rfl ?_; intro H
  refine Zj ?_; refine Za (l := [0]) rfl ?_; refine Zd ?_; refine Ze ?_; refine Zc ?_; refine Zj ?_; refine Za (l := [0, 1, 2]) rfl ?_
  iterate 2 refine Zf ?_
  refine Zdw rfl rfl rfl (.some (k := 0) rfl rfl) .none .none F.elem35 (by simp) (by simp) (by simp) (by simp) rfl rfl ?_; refine Ze ?_; refine Zc ?_; refine Y_pk [6, 0, 1, 2] ?_; refine Zj ?_; refine Za (l := [0, 1, 2]) rfl ?_; refine Zf ?_; refine Zbb F.elem35 ?_; refine Zd ?_; refine Ze ?_; refine Zc ?_; refine Y_pk [7, 6, 0, 1, 2] ?_
  iterate 2 refine Zj ?_
  refine Za (l := [0, 1]) rfl ?_; refine Zf ?_; refine Zav ?_; refine Ze ?_; refine Zc ?_; refine Y_pk [16, 7, 6, 0, 1, 2] ?_
  refine Zau rfl (fun hc1 => ?_) (fun hc1 => ?_)
  ·replace hc1 := dT hc1
   (exfalso; omega)
  ·replace hc1 := dF hc1
   refine Zax ?_; refine Zc ?_; refine Y_pk [7, 6, 0, 1, 2] ?_; refine Zj ?_; refine Za (l := [0, 1, 2]) rfl ?_; refine Zf ?_; refine Zbb F.elem35 ?_; refine Zd ?_; refine Ze ?_; refine Zc ?_; refine Y_pk [8, 7, 6, 0, 1, 2] ?_
   iterate 2 refine Zj ?_
   refine Za (l := [0, 1, 2]) rfl ?_
   iterate 2 refine Zf ?_
   refine Zav ?_; refine Ze ?_; refine Zc ?_; refine Y_pk [22, 8, 7, 6, 0, 1, 2] ?_
   refine Zau rfl (fun hc2 => ?_) (fun hc2 => ?_)
   ·replace hc2 := dT hc2
    simp only [AnswerV.eta, MarkV.eta, CellV.eta, HeldV.eta, WaitV.eta, ServerV.eta, PeerV.eta, OpV.eta, ParcelV.eta, PostV.eta, WorkerV.eta] at hc2
    refine Zj ?_; refine Za (l := [0, 1, 2, 3]) rfl ?_
    iterate 2 refine Zf ?_
    refine Zdn (m := 1000000) rfl rfl rfl rfl rfl F.elem35 F.zero92 (by rfl) rfl (by exact OSl.nil) (by repeat first | exact Rem.here _ | exact Rem.two | apply Rem.skip | apply Rem.over) (OSl.srcAll hob (by repeat first | exact Rem.here _ | exact Rem.two | apply Rem.skip | apply Rem.over) (by intro u hu; exact Zfi MarkV.flat [x] u (by simpa using hu))) (by (simp; done)) (by decide) rfl ?_; intro v5 hs4 ho3; obtain ⟨adv5, cpv5, rfl⟩ := ho3.val
    refine Zd ?_; refine Ze ?_; refine Zc ?_; refine Y_pk [6, 8, 7, 0, 1, 2] ?_; refine Zak ?_; refine Zba ?_
    refine Zaj (.inr rfl) (.tmp rfl .nil) (fun w hw => ?_)
    exact ⟨_, M, hs4, rfl, Mem.le.refl M, hw.c, rfl, ho3⟩
   ·replace hc2 := dF hc2
    simp only [AnswerV.eta, MarkV.eta, CellV.eta, HeldV.eta, WaitV.eta, ServerV.eta, PeerV.eta, OpV.eta, ParcelV.eta, PostV.eta, WorkerV.eta] at hc2
    (exfalso; simp [eqX] at hc2; done)
theorem InsertK_some (M : Mem) (b : Nat) (c : Nat) (l : List MarkV) (hs : Hp) (i : Nat) (hi : i ≤ l.length) (x : MarkV) (bv : Nat) (hv : Hp) (hob : OSl 92 6 (.slice (some ⟨bv, 0, none⟩) 1 1) hv [MarkV.segs x]) (hb : l.length ≤ 1000000) (ho : OSl 92 6 (.slice (some ⟨b, 0, none⟩) l.length c) hs (l.map MarkV.segs)) : Fh Tryz.prog 111 [.slice (some ⟨b, 0, none⟩) l.length c, .int .i64 (i : Int), .slice (some ⟨bv, 0, none⟩) 1 1] M (hs ++ hv) (fun M' v Hout => M' = M ∧ OSl 92 6 v Hout ((insL l i x).map MarkV.segs)) := by
  have hcc := ho.caps
  simp only [List.length_map] at hcc
  have hob9 := hob
  have hom : OSl 92 6 (.slice (some ⟨b, 0, none⟩) (l.map MarkV.segs).length c) hs (l.map MarkV.segs) := by rw [List.length_map]; exact ho
  obtain ⟨cv, rfl, _⟩ := hob9.inv
  refine Zfg Tryz.func111 rfl Tryz.ntmps111 rfl ?_; intro H
  rw [List.append_assoc]
  refine Zj ?_; refine Za (l := [0]) rfl ?_; refine Zd ?_; refine Ze ?_; refine Zc ?_; refine Zj ?_; refine Za (l := [0, 1, 2]) rfl ?_
  iterate 2 refine Zf ?_
  refine Zdw rfl rfl rfl (.some (k := i) rfl rfl) .none .none F.elem35 (by simp) (by simp only [Option.getD_some, Option.getD_none]; omega) (by simp only [Option.getD_some, Option.getD_none]; omega) (by simp) rfl rfl ?_; refine Ze ?_; refine Zc ?_; refine Y_pk [6, 0, 1, 2] ?_; refine Zj ?_; refine Za (l := [0, 1, 2]) rfl ?_; refine Zf ?_; refine Zbb F.elem35 ?_; refine Zd ?_; refine Ze ?_; refine Zc ?_; refine Y_pk [7, 6, 0, 1, 2] ?_
  iterate 2 refine Zj ?_
  refine Za (l := [0, 1]) rfl ?_; refine Zf ?_; refine Zav ?_; refine Ze ?_; refine Zc ?_; refine Y_pk [16, 7, 6, 0, 1, 2] ?_
  refine Zau rfl (fun hc1 => ?_) (fun hc1 => ?_)
  ·replace hc1 := dT hc1
   (exfalso; omega)
  ·replace hc1 := dF hc1
   refine Zax ?_; refine Zc ?_; refine Y_pk [7, 6, 0, 1, 2] ?_; refine Zj ?_; refine Za (l := [0, 1, 2]) rfl ?_; refine Zf ?_; refine Zbb F.elem35 ?_; refine Zd ?_; refine Ze ?_; refine Zc ?_; refine Y_pk [8, 7, 6, 0, 1, 2] ?_
   iterate 2 refine Zj ?_
   refine Za (l := [0, 1, 2]) rfl ?_
   iterate 2 refine Zf ?_
   refine Zav ?_; refine Ze ?_; refine Zc ?_; refine Y_pk [22, 8, 7, 6, 0, 1, 2] ?_
   refine Zau rfl (fun hc2 => ?_) (fun hc2 => ?_)
   ·replace hc2 := dT hc2
    refine Zj ?_; refine Za (l := [0, 1, 2, 3]) rfl ?_
    iterate 2 refine Zf ?_
    refine Zdn (m := 1000001) rfl rfl rfl rfl rfl F.elem35 F.zero92 (by rfl) rfl (by assumption) (by repeat first | exact Rem.here _ | exact Rem.two | apply Rem.skip | apply Rem.over) (OSl.srcAll hob (by repeat first | exact Rem.here _ | exact Rem.two | apply Rem.skip | apply Rem.over) (by intro u hu; exact Zfi MarkV.flat [x] u (by simpa using hu))) (by (simp; omega)) (by decide) rfl ?_; intro v5 hs4 ho3; obtain ⟨adv5, cpv5, rfl⟩ := ho3.val
    refine Zd ?_; refine Ze ?_; refine Zc ?_; refine Y_pk [6, 8, 7, 0, 1, 2] ?_; refine Zak ?_; refine Zba ?_
    refine Zaj (.inr rfl) (.tmp rfl .nil) (fun w hw => ?_)
    obtain rfl : i = l.length := by omega
    exact ⟨_, M, hs4, rfl, Mem.le.refl M, hw.c, rfl, by rw [insL_end, List.map_append]; exact ho3⟩
   ·replace hc2 := dF hc2
    refine Zax ?_; refine Zc ?_; refine Y_pk [8, 7, 6, 0, 1, 2] ?_
    iterate 2 refine Zj ?_
    refine Za (l := [0, 1, 2, 3, 4, 5]) rfl ?_
    iterate 2 refine Zf ?_
    refine Zcc rfl rfl rfl rfl rfl (by exact Zbf (by decide) (by omega)) rfl ?_; refine Zf ?_; refine X_cap_sl rfl rfl rfl rfl F.elem35 rfl ?_; refine Zav ?_; refine Ze ?_; refine Zc ?_; refine Y_pk [31, 8, 7, 6, 0, 1, 2] ?_
    refine Zau rfl (fun hc6 => ?_) (fun hc6 => ?_)
    ·replace hc6 := dT hc6
     refine Zj ?_; refine Za (l := [0, 1, 2, 3, 4, 5, 6, 7, 8, 9]) rfl ?_
     iterate 2 refine Zf ?_
     refine Zdw rfl rfl rfl .none (.some (k := i) rfl (by rfl)) .none F.elem35 (by simp) (by simp only [Option.getD_some, Option.getD_none]; omega) (by simp only [Option.getD_some, Option.getD_none]; omega) (by simp) (show pieceV (some ⟨_, 0, none⟩) 6 0 (i) c = .slice (some ⟨_, 0, none⟩) (i) c from pieceV_zero) rfl ?_
     iterate 2 refine Zf ?_
     refine Zcc rfl rfl rfl rfl rfl (by exact Zbf (by decide) (by omega)) rfl ?_; refine Zf ?_; refine Zcc rfl rfl rfl rfl rfl (by exact Zbf (by decide) (by omega)) rfl ?_
     rw [show (l.length : Int) + ((1 : Nat) : Int) - (i : Int) = ((l.length + 1 - i : Nat) : Int) by omega]
     refine X_appendZO (j := i) (k := l.length + 1 - i) rfl rfl rfl rfl F.elem35 Tryz.underlying3 F.zero92 (by rfl) rfl ho (by repeat first | exact Rem.here _ | exact Rem.two | apply Rem.skip | apply Rem.over) (by rw [List.length_map]; omega) (by omega) (by omega) (by omega) (Nat.le_trans (Nat.mul_le_mul_right _ (show i + (l.length + 1 - i) ≤ 1000001 by omega)) (by decide)) rfl ?_; intro b9 c9 hs9 zs9 hz9 ho9
     rw [show i + (l.length + 1 - i) = l.length + 1 by omega] at ho9 ⊢
     have hn9 : ((l.map MarkV.segs).take i ++ zs9).length = l.length + 1 := by simp [hz9]; omega
     have hc9 := ho9.caps
     refine Zd ?_; refine Ze ?_; refine Zc ?_; refine Y_pk [9, 8, 7, 6, 0, 1, 2] ?_; refine Zj ?_; refine Za (l := [0, 1, 2, 3, 4]) rfl ?_
     iterate 2 refine Zf ?_
     refine Zdw rfl rfl rfl (.some (k := i) rfl (by rfl)) .none .none F.elem35 (by simp) (by simp only [Option.getD_some, Option.getD_none]; omega) (by simp only [Option.getD_some, Option.getD_none]; omega) (by simp) (show pieceV (some ⟨_, 0, none⟩) 6 (i) (l.length + 1) (c9) = .slice (some ⟨_, 0 + (i) * 6, none⟩) (l.length + 1 - (i)) (c9 - (i)) from Zew (by omega)) rfl ?_; refine Zf ?_
     rw [Nat.zero_add]
     refine X_copyP (k := i) (news := [MarkV.segs x]) rfl rfl rfl rfl rfl F.elem35 rfl (by rw [hn9]; omega) ho9 (by repeat first | exact Rem.here _ | exact Rem.two | apply Rem.skip | apply Rem.over) (OSl.srcAll hob (by repeat first | exact Rem.here _ | exact Rem.two | apply Rem.skip | apply Rem.over) (by intro u hu; exact Zfi MarkV.flat [x] u (by simpa using hu))) (by show 1 = min 1 (l.length + 1 - i); omega) rfl ?_; intro hs10 ho10
     rw [hn9] at ho10
     refine Ze ?_; refine Zc ?_; refine Y_pk [9, 8, 7, 6, 0, 1, 2] ?_; refine Zj ?_; refine Zar (l := [0, 1, 2, 3, 4, 5, 6, 7, 8]) #[0, 0, 0, 6, 15, 0, 0, 96, 255] _ rfl (by kernel_rfl) (by kernel_rfl) St.drawn (fun _ h => h) ?_
     iterate 3 refine Zf ?_
     refine Zcc rfl rfl rfl rfl rfl (by exact Zbf (by decide) (by omega)) rfl ?_; refine Zdw rfl rfl rfl (.some (k := i + 1) rfl (by rfl)) .none .none F.elem35 (by simp) (by simp only [Option.getD_some, Option.getD_none]; omega) (by simp only [Option.getD_some, Option.getD_none]; omega) (by simp) (show pieceV (some ⟨_, 0, none⟩) 6 (i + 1) (l.length + 1) (c9) = .slice (some ⟨_, 0 + (i + 1) * 6, none⟩) (l.length + 1 - (i + 1)) (c9 - (i + 1)) from Zew (by omega)) rfl ?_
     iterate 2 refine Zf ?_
     refine Zdw rfl rfl rfl (.some (k := i) rfl (by rfl)) .none .none F.elem35 (by simp) (by simp only [Option.getD_some, Option.getD_none]; omega) (by simp only [Option.getD_some, Option.getD_none]; omega) (by simp) (show pieceV (some ⟨_, 0, none⟩) 6 (i) (l.length) (c) = .slice (some ⟨_, 0 + (i) * 6, none⟩) (l.length - (i)) (c - (i)) from Zew (by omega)) rfl ?_
     rw [Nat.zero_add, Nat.zero_add]
     have hn10 : (((l.map MarkV.segs).take i ++ zs9).take i ++ [MarkV.segs x] ++ ((l.map MarkV.segs).take i ++ zs9).drop (i + [MarkV.segs x].length)).length = l.length + 1 := by simp only [List.length_append, List.length_take, List.length_drop, hn9, List.length_cons, List.length_nil]; omega
     refine X_copyP (k := i + 1) (news := (l.map MarkV.segs).drop i) rfl rfl rfl rfl rfl F.elem35 rfl (by rw [hn10]; omega) ho10 (by repeat first | exact Rem.here _ | exact Rem.two | apply Rem.skip | apply Rem.over) (by rw [List.length_drop]; exact hom.src (by repeat first | exact Rem.here _ | exact Rem.two | apply Rem.skip | apply Rem.over) (by intro u hu; exact Zfi MarkV.flat l u hu)) (by simp only [List.length_drop, List.length_map]; omega) rfl ?_; intro hs11 ho11
     rw [hn10] at ho11
     rw [show i + [MarkV.segs x].length = i + 1 from rfl, ins_grow (by rw [List.length_map]; omega) (by rw [List.length_map]; exact hz9)] at ho11
     refine Ze ?_; refine Zc ?_; refine Y_pk [9, 8, 7, 6, 0, 1, 2] ?_; refine Zj ?_; refine Za (l := [0, 1]) rfl ?_; refine Zf ?_; refine Zd ?_; refine Ze ?_; refine Zc ?_; refine Y_pk [6, 8, 7, 0, 1, 2] ?_; refine Zak ?_; refine Zba ?_
     refine Zaj (.inr rfl) (.tmp rfl .nil) (fun w hw => ?_)
     exact ⟨_, M, hs11, rfl, Mem.le.refl M, hw.c, rfl, by rw [insL_map]; exact ho11⟩
    ·replace hc6 := dF hc6
     refine Zax ?_; refine Zc ?_; refine Y_pk [8, 7, 6, 0, 1, 2] ?_; refine Zj ?_; refine Za (l := [0, 1, 2, 3, 4, 5]) rfl ?_
     iterate 3 refine Zf ?_
     refine Zcc rfl rfl rfl rfl rfl (by exact Zbf (by decide) (by omega)) rfl ?_; refine Zdw rfl rfl rfl .none (.some (k := l.length + 1) rfl (by rfl)) .none F.elem35 (by simp) (by simp only [Option.getD_some, Option.getD_none]; omega) (by simp only [Option.getD_some, Option.getD_none]; omega) (by simp) (show pieceV (some ⟨_, 0, none⟩) 6 0 (l.length + 1) c = .slice (some ⟨_, 0, none⟩) (l.length + 1) c from pieceV_zero) rfl ?_; refine Zd ?_; refine Ze ?_; refine Zc ?_; refine Y_pk [0, 8, 7, 6, 1, 2] ?_
     iterate 2 refine Zj ?_
     refine Za (l := [0, 1, 2, 3, 4, 5, 6, 7]) rfl ?_
     obtain ⟨ext, hext, ho13⟩ := OSl.extend (m := 1) (show OSl 92 6 (.slice (some ⟨b, 0, none⟩) (l.map MarkV.segs).length c) hs (l.map MarkV.segs) by rw [List.length_map]; exact ho) (by rw [List.length_map]; omega)
     rw [List.length_map] at ho13
     iterate 4 refine Zf ?_
     refine Zcc rfl rfl rfl rfl rfl (by exact Zbf (by decide) (by omega)) rfl ?_; refine Zdw rfl rfl rfl (.some (k := i + 1) rfl (by rfl)) .none .none F.elem35 (by simp) (by simp only [Option.getD_some, Option.getD_none]; omega) (by simp only [Option.getD_some, Option.getD_none]; omega) (by simp) (show pieceV (some ⟨_, 0, none⟩) 6 (i + 1) (l.length + 1) (c) = .slice (some ⟨_, 0 + (i + 1) * 6, none⟩) (l.length + 1 - (i + 1)) (c - (i + 1)) from Zew (by omega)) rfl ?_; refine X_ext rfl rfl F.ext119 rfl (fun w hw => run_apart (tR := 4) F.elem35 ho (by repeat first | exact Rem.here _ | exact Rem.two | apply Rem.skip | apply Rem.over) (.head _) (Nat.mul_pos (by omega) (by decide)) hw) rfl ?_; refine Zel ?_; refine Ze ?_; refine Zc ?_; refine Y_pk [68, 0, 8, 7, 6, 1, 2] ?_
     refine Zau rfl (fun hc7 => ?_) (fun hc7 => ?_)
     ·skip
      refine Zj ?_; refine Zar (l := [0, 1, 2, 3, 4, 5, 6, 7, 8]) #[0, 0, 0, 6, 15, 0, 0, 96, 255] _ rfl (by kernel_rfl) (by kernel_rfl) St.drawn (fun _ h => h) ?_
      iterate 3 refine Zf ?_
      refine Zcc rfl rfl rfl rfl rfl (by exact Zbf (by decide) (by omega)) rfl ?_; refine Zdw rfl rfl rfl (.some (k := i + 1) rfl (by rfl)) .none .none F.elem35 (by simp) (by simp only [Option.getD_some, Option.getD_none]; omega) (by simp only [Option.getD_some, Option.getD_none]; omega) (by simp) (show pieceV (some ⟨_, 0, none⟩) 6 (i + 1) (l.length + 1) (c) = .slice (some ⟨_, 0 + (i + 1) * 6, none⟩) (l.length + 1 - (i + 1)) (c - (i + 1)) from Zew (by omega)) rfl ?_
      iterate 2 refine Zf ?_
      refine Zdw rfl rfl rfl (.some (k := i) rfl (by rfl)) .none .none F.elem35 (by simp) (by simp only [Option.getD_some, Option.getD_none]; omega) (by simp only [Option.getD_some, Option.getD_none]; omega) (by simp) (show pieceV (some ⟨_, 0, none⟩) 6 (i) (l.length + 1) (c) = .slice (some ⟨_, 0 + (i) * 6, none⟩) (l.length + 1 - (i)) (c - (i)) from Zew (by omega)) rfl ?_
      rw [Nat.zero_add, Nat.zero_add]
      refine X_copyP (k := i + 1) (news := (l.map MarkV.segs).drop i) rfl rfl rfl rfl rfl F.elem35 rfl (by simp [hext]; omega) ho13 (by repeat first | exact Rem.here _ | exact Rem.two | apply Rem.skip | apply Rem.over) (by rw [List.length_drop]; exact hom.src (by repeat first | exact Rem.here _ | exact Rem.two | apply Rem.skip | apply Rem.over) (by intro u hu; exact Zfi MarkV.flat l u hu)) (by simp only [List.length_drop, List.length_map]; omega) rfl ?_; intro hs15 ho15
      have hn15 : ((l.map MarkV.segs) ++ ext).length = l.length + 1 := by simp [hext]
      rw [hn15] at ho15
      refine Ze ?_; refine Zc ?_; refine Y_pk [0, 8, 7, 6, 1, 2] ?_; refine Zj ?_; refine Za (l := [0, 1, 2, 3, 4]) rfl ?_
      iterate 2 refine Zf ?_
      refine Zdw rfl rfl rfl (.some (k := i) rfl (by rfl)) .none .none F.elem35 (by simp) (by simp only [Option.getD_some, Option.getD_none]; omega) (by simp only [Option.getD_some, Option.getD_none]; omega) (by simp) (show pieceV (some ⟨_, 0, none⟩) 6 (i) (l.length + 1) (c) = .slice (some ⟨_, 0 + (i) * 6, none⟩) (l.length + 1 - (i)) (c - (i)) from Zew (by omega)) rfl ?_; refine Zf ?_
      rw [Nat.zero_add]
      have hn16 : (((l.map MarkV.segs) ++ ext).take (i + 1) ++ (l.map MarkV.segs).drop i ++ ((l.map MarkV.segs) ++ ext).drop (i + 1 + ((l.map MarkV.segs).drop i).length)).length = l.length + 1 := by simp only [List.length_append, List.length_take, List.length_drop, List.length_map, hext]; omega
      refine X_copyP (k := i) (news := [MarkV.segs x]) rfl rfl rfl rfl rfl F.elem35 rfl (by rw [hn16]; omega) ho15 (by repeat first | exact Rem.here _ | exact Rem.two | apply Rem.skip | apply Rem.over) (OSl.srcAll hob (by repeat first | exact Rem.here _ | exact Rem.two | apply Rem.skip | apply Rem.over) (by intro u hu; exact Zfi MarkV.flat [x] u (by simpa using hu))) (by show 1 = min 1 (l.length + 1 - i); omega) rfl ?_; intro hs16 ho16
      rw [hn16] at ho16
      rw [show i + [MarkV.segs x].length = i + 1 from rfl, ins_room (by rw [List.length_map]; omega) hext] at ho16
      refine Ze ?_; refine Zc ?_; refine Y_pk [0, 8, 7, 6, 1, 2] ?_; refine Zj ?_; refine Za (l := [0, 1]) rfl ?_; refine Zf ?_; refine Zd ?_; refine Ze ?_; refine Zc ?_; refine Y_pk [6, 0, 8, 7, 1, 2] ?_; refine Zak ?_; refine Zba ?_
      refine Zaj (.inr rfl) (.tmp rfl .nil) (fun w hw => ?_)
      exact ⟨_, M, hs16, rfl, Mem.le.refl M, hw.c, rfl, by rw [insL_map]; exact ho16⟩
     ·skip
      (exfalso; simp [eqX] at hc7; done)
theorem InsertK_ok (M : Mem) (a : Option Addr) (c : Nat) (l : List MarkV) (hs : Hp) (i : Nat) (hi : i ≤ l.length) (x : MarkV) (bv : Nat) (hv : Hp) (hob : OSl 92 6 (.slice (some ⟨bv, 0, none⟩) 1 1) hv [MarkV.segs x]) (hb : l.length ≤ 1000000) (ho : OSl 92 6 (.slice a l.length c) hs (l.map MarkV.segs)) : Fh Tryz.prog 111 [.slice a l.length c, .int .i64 (i : Int), .slice (some ⟨bv, 0, none⟩) 1 1] M (hs ++ hv) (fun M' v Hout => M' = M ∧ OSl 92 6 v Hout ((insL l i x).map MarkV.segs)) := by
  cases a with
  |none =>
   obtain ⟨rfl, rfl, rfl⟩ := ho.noneAll
   obtain rfl : i = 0 := by simpa using hi
   exact InsertK_nil M x bv hv hob
  |some ad =>
   obtain ⟨b, rfl⟩ := ho.someAll
   exact InsertK_some M b c l hs i hi x bv hv hob hb ho
end Go.Proofs.YtpkeilhilpogiaaGreat
namespace Go.Proofs.YtpkeilhilpogiaaGreat
open Go.Esp
theorem F.lay92 : lay Tryz.prog 92 = some (true, 6) := by kernel_rfl
theorem BSK_rd (M : Mem) (Hin : Hp) (l : Sl MarkV) (xv : Value) (gf : FuncId) (caps : List Value) (cmp : MarkV → Int) (hl : RdS M Hin l.a (l.l.map MarkV.segs) 6) (bl : l.l.length ≤ 1000000) (hok : okFn Tryz.prog gf = true) (hc : ∀ x ∈ l.l, Fo Tryz.prog gf ([x.enc, xv] ++ caps) M Hin (fun M' v => M' = M ∧ v = .int .i64 (cmp x))) (hmono : ∀ i j (hi : i < l.l.length) (hj : j < l.l.length), i ≤ j → 0 ≤ cmp l.l[i] → 0 ≤ cmp l.l[j]) : Fo Tryz.prog 109 [l.val, xv, .func (.func gf) #[] caps.toArray] M Hin (fun M' v => M' = M ∧ v = .tuple #[.int .i64 ((bsAt cmp l.l : Nat) : Int), .bool (bsIs cmp l.l)]) := by
  have nl : (l.l.map MarkV.segs).length = l.l.length := List.length_map ..
  refine Zfq Tryz.func109 rfl Tryz.ntmps109 rfl ?_; intro H
  have hrd := hl.app H
  refine Zj ?_; refine Za (l := [0, 1]) rfl ?_
  iterate 2 refine Zd ?_
  refine Ze ?_; refine Zc ?_; refine Zj ?_; refine Za (l := [0, 1, 2]) rfl ?_; refine Zf ?_; refine Zbb F.elem35 ?_; refine Zd ?_; refine Ze ?_; refine Zc ?_; refine Y_pk [8, 7, 6, 0, 1, 2] ?_; refine Zj ?_; refine Za (l := [0, 1, 2]) rfl ?_; refine Zf ?_
  iterate 2 refine Zd ?_
  refine Ze ?_; refine Zc ?_; refine Y_pk [10, 9, 8, 7, 6, 0, 1, 2] ?_; refine Zj ?_; refine Zbe ?_; refine Y_pk [9, 10, 8, 7, 6, 0, 1, 2] ?_; refine Zed (.succ (.succ .zero)) (fun (x : Nat × Nat) z => z = [(9, .int .i64 (x.1 : Int)), (10, .int .i64 (x.2 : Int))] ∧ x.1 ≤ x.2 ∧ x.2 ≤ l.l.length ∧ (∀ y, y < x.1 → bsP cmp l.l y = false) ∧ (x.2 < l.l.length → bsP cmp l.l x.2 = true)) (fun x => x.2 - x.1) ((0, l.l.length)) (⟨rfl, Nat.zero_le _, Nat.le_refl _, fun y h => (by cases h), fun h => (by omega)⟩) ?_
  rintro ⟨a, b⟩ z ⟨hz, h1, h2, h3, h4⟩
  simp only at hz h1 h2 h3 h4
  subst hz
  iterate 2 refine Zj ?_
  refine Za (l := [0, 1, 2]) rfl ?_
  iterate 2 refine Zf ?_
  refine Zav ?_; refine Ze ?_; refine Zc ?_
  refine Zau rfl (fun hc1 => ?_) (fun hc1 => ?_)
  ·replace hc1 := dT hc1
   refine Zax ?_; refine Zc ?_; refine Zbe ?_; refine Zj ?_; refine Za (l := [0, 1, 2, 3, 4, 5, 6]) rfl ?_
   iterate 2 refine Zf ?_
   refine Zcc rfl rfl rfl rfl rfl (by exact Zbf (by decide) (by omega)) rfl ?_; refine X_conv rfl rfl rfl Tryz.underlying3 Tryz.underlying144 (by exact wrap_u64_in (by decide) (by omega)) rfl ?_; refine X_shift rfl rfl rfl rfl (by decide) (shr_lit 1 (by decide)) rfl rfl ?_; refine X_conv rfl rfl rfl Tryz.underlying144 Tryz.underlying3 (by exact Zbf (by decide) (by omega)) rfl ?_
   have hm9 : (a + b) / 2 < l.l.length := (by have h8 : a < b := (by omega); omega)
   have e9 : ((a : Int) + (b : Int)) / 2 ^ 1 = (((a + b) / 2 : Nat) : Int) := by omega
   rw [e9]
   refine Zd ?_; refine Ze ?_; refine Zc ?_; refine Zj ?_; refine Za (l := [0, 1, 2, 3, 4, 5, 6, 7]) rfl ?_
   iterate 3 refine Zf ?_
   refine Zaa rfl rfl rfl rfl F.elem35 (by rfl) (by omega) (by exact RdS.plain (by assumption) (by (simp; omega))) rfl ?_; refine X_load_rd rfl rfl rfl (by assumption) (by exact Zbl (by omega)) F.lay92 rfl rfl rfl ?_; refine Zf ?_; refine X_foV rfl rfl rfl hok rfl rfl (hc _ (List.getElem_mem (n := (a + b) / 2) (by omega))) (by repeat first | exact Rem.here _ | exact Rem.two | apply Rem.skip | apply Rem.over) (Zbq rfl) ?_
   rintro _ M1 _ ⟨hM1, rfl⟩; subst M1
   refine Zav ?_; refine Ze ?_; refine Zc ?_
   refine Zau rfl (fun hc2 => ?_) (fun hc2 => ?_)
   ·replace hc2 := dT hc2
    simp only [List.get_eq_getElem] at hc2
    refine Za (l := [0, 1, 2]) rfl ?_; refine Zf ?_; refine Zcc rfl rfl rfl rfl rfl (by exact Zbf (by decide) (by omega)) rfl ?_; refine Zd ?_; refine Ze ?_; refine Zde ?_; refine Zda (a' := [(9, _), (10, _)]) (((a + b) / 2 + 1, b)) (.cons (k := 9) rfl (.cons (k := 10) rfl (.cons (k := 8) rfl (.cons (k := 7) rfl (.cons (k := 6) rfl (.cons (k := 0) rfl (.cons (k := 1) rfl (.cons (k := 2) rfl (.nil))))))))) (fun w hw => by first | exact hw | exact hw.c) ?_ ?_
    ·refine ⟨rfl, (by show (a + b) / 2 + 1 ≤ b; omega), h2, fun y hy => ?_, h4⟩
     have hy2 : y < (a + b) / 2 + 1 := hy
     rw [bsP_at (by omega)]
     refine decide_eq_false (fun hq => ?_)
     have := hmono y ((a + b) / 2) (by omega) hm9 (by omega) hq
     omega
    ·show b - ((a + b) / 2 + 1) < b - a; omega
   ·replace hc2 := dF hc2
    simp only [List.get_eq_getElem] at hc2
    refine Za (l := [0, 1]) rfl ?_; refine Zf ?_; refine Zd ?_; refine Ze ?_; refine Zde ?_; refine Zda (a' := [(9, _), (10, _)]) ((a, (a + b) / 2)) (.cons (k := 9) rfl (.cons (k := 10) rfl (.cons (k := 8) rfl (.cons (k := 7) rfl (.cons (k := 6) rfl (.cons (k := 0) rfl (.cons (k := 1) rfl (.cons (k := 2) rfl (.nil))))))))) (fun w hw => by first | exact hw | exact hw.c) ?_ ?_
    ·exact ⟨rfl, (by show a ≤ (a + b) / 2; omega), (by show (a + b) / 2 ≤ l.l.length; omega), h3, fun _ => by rw [bsP_at hm9]; exact decide_eq_true (by omega)⟩
    ·show (a + b) / 2 - a < b - a; omega
  ·replace hc1 := dF hc1
   refine Zcm ?_
   iterate 2 refine Zcd ?_
   refine Zdl ?_; refine Zc ?_; refine Y_pk [9, 8, 7, 6, 0, 1, 2] ?_; refine Zj ?_; refine Za (l := [0, 1, 2, 3, 4, 5, 6, 7, 8, 9, 10, 11, 12, 13, 14, 15]) rfl ?_
   iterate 3 refine Zf ?_
   refine Zav ?_; refine Zf ?_
   refine Zag 39 rfl (fun hc3 => ?_) (fun hc3 => ?_)
   ·replace hc3 := dT hc3
    iterate 3 refine Zf ?_
    refine Zaa rfl rfl rfl rfl F.elem35 (by rfl) (by omega) (by exact RdS.plain (by assumption) (by (simp; omega))) rfl ?_; refine X_load_rd rfl rfl rfl (by assumption) (by exact Zbl (by omega)) F.lay92 rfl rfl rfl ?_; refine Zf ?_; refine X_foV rfl rfl rfl hok rfl rfl (hc _ (List.getElem_mem (n := a) (by omega))) (by repeat first | exact Rem.here _ | exact Rem.two | apply Rem.skip | apply Rem.over) (Zbq rfl) ?_
    rintro _ M1 _ ⟨hM1, rfl⟩; subst M1
    refine Zav ?_; refine Zl ?_
    iterate 2 refine Zd ?_
    refine Ze ?_; refine Zc ?_; refine Y_pk [7, 6] ?_; refine Zak ?_
    refine Zaj (.inr rfl) (.tmp rfl (.tmp rfl .nil)) (fun w hw => ?_)
    obtain rfl : a = b := by omega
    have hat : bsAt cmp l.l = a := firstP_at h2 h3 h4
    refine ⟨_, M, rfl, Mem.le.refl M, hw.c, rfl, ?_⟩
    clear hw
    rw [hat]
    (rw [bsIs_lt hat (by omega)]; rfl)
   ·replace hc3 := dF hc3
    iterate 8 refine Zz ?_
    refine Zl ?_
    iterate 2 refine Zd ?_
    refine Ze ?_; refine Zc ?_; refine Y_pk [7, 6] ?_; refine Zak ?_
    refine Zaj (.inr rfl) (.tmp rfl (.tmp rfl .nil)) (fun w hw => ?_)
    obtain rfl : a = b := by omega
    have hat : bsAt cmp l.l = a := firstP_at h2 h3 h4
    refine ⟨_, M, rfl, Mem.le.refl M, hw.c, rfl, ?_⟩
    clear hw
    rw [hat]
    (rw [bsIs_ge hat (by omega)]; rfl)
end Go.Proofs.YtpkeilhilpogiaaGreat
namespace Go.Proofs.YtpkeilhilpogiaaGreat
open Go.Esp
theorem F.foff34_0 : foff Tryz.prog 34 0 = some 0 := by kernel_rfl
theorem F.foff34_3 : foff Tryz.prog 34 3 = some 3 := by kernel_rfl
theorem F.foff37_1 : foff Tryz.prog 37 1 = some 1 := by kernel_rfl
theorem F.foff37_2 : foff Tryz.prog 37 2 = some 2 := by kernel_rfl
theorem F.foff37_3 : foff Tryz.prog 37 3 = some 3 := by kernel_rfl
theorem F.foff92_0 : foff Tryz.prog 92 0 = some 0 := by kernel_rfl
theorem F.foff92_2 : foff Tryz.prog 92 2 = some 2 := by kernel_rfl
theorem F.lay32 : lay Tryz.prog 32 = some (false, 1) := by kernel_rfl
theorem F.lay34 : lay Tryz.prog 34 = some (true, 4) := by kernel_rfl
theorem F.lay35 : lay Tryz.prog 35 = some (false, 1) := by kernel_rfl
theorem F.lay4 : lay Tryz.prog 4 = some (false, 1) := by kernel_rfl
theorem F.lay9 : lay Tryz.prog 9 = some (false, 1) := by kernel_rfl
theorem F.ok83 : okFn Tryz.prog 83 = true := by kernel_rfl
theorem F.ok84 : okFn Tryz.prog 84 = true := by kernel_rfl
theorem F.ok85 : okFn Tryz.prog 85 = true := by kernel_rfl
theorem F.zero34 : zeroOf Tryz.prog 34 = some (aggV [.one (.int .i64 0), .one (.int .u64 0), .one (.bool false), .one (.string ⟨#[]⟩)]) := by kernel_rfl
theorem val_ok (M : Mem) (s : ByteArray) (has : Bool) : Fs Tryz.prog 83 [.string s, .bool has] M (fun v => v = Value.bool (decide (ValOk s has))) := by
  refine Zci Tryz.func83 rfl Tryz.ntmps83 rfl ?_; intro H
  refine Zj ?_; refine Za (l := [0]) rfl ?_; refine Zd ?_; refine Ze ?_; refine Zc ?_; refine Zj ?_; refine Za (l := [0, 1, 2, 3, 4, 5, 6, 7, 8, 9, 10]) rfl ?_; refine Zf ?_; refine Zfj Tryz.underlying9 ?_; refine Zav ?_; refine Zf ?_
  refine Zag 8 rfl (fun hc1 => ?_) (fun hc1 => ?_)
  ·replace hc1 := dT hc1
   iterate 2 refine Zf ?_
   refine Zag 10 rfl (fun hc2 => ?_) (fun hc2 => ?_)
   ·skip
    iterate 2 refine Zz ?_
    iterate 2 refine Zl ?_
    refine Zd ?_; refine Ze ?_; refine Zc ?_; refine Y_pk [4] ?_; refine Zak ?_
    refine Zaj (.inr rfl) (.tmp rfl .nil) (fun w hw => ?_)
    refine ⟨_, rfl, (hw.c), ?_⟩
    clear hw
    refine congrArg Value.bool ?_
    (simp_all [ValOk]; done)
   ·skip
    refine Zf ?_; refine Zgu ?_
    iterate 2 refine Zl ?_
    refine Zd ?_; refine Ze ?_; refine Zc ?_; refine Y_pk [4] ?_; refine Zak ?_
    refine Zaj (.inr rfl) (.tmp rfl .nil) (fun w hw => ?_)
    refine ⟨_, rfl, (hw.c), ?_⟩
    clear hw
    refine congrArg Value.bool ?_
    (simp_all [ValOk]; done)
  ·replace hc1 := dF hc1
   iterate 5 refine Zz ?_
   refine Zl ?_; refine Zd ?_; refine Ze ?_; refine Zc ?_; refine Y_pk [4] ?_; refine Zak ?_
   refine Zaj (.inr rfl) (.tmp rfl .nil) (fun w hw => ?_)
   refine ⟨_, rfl, (hw.c), ?_⟩
   clear hw
   refine congrArg Value.bool ?_
   exact (decide_eq_false (fun h9 => by unfold ValOk at h9; omega)).symm
theorem rVal_ok (M : Mem) (s : ByteArray) (has : Bool) : Fs Tryz.prog 84 [.string s, .bool has] M (fun v => v = Value.bool (decide (ValOk s has))) := by
  refine Zci Tryz.func84 rfl Tryz.ntmps84 rfl ?_; intro H
  refine Zj ?_; refine Za (l := [0]) rfl ?_; refine Zd ?_; refine Ze ?_; refine Zc ?_; refine Zj ?_; refine Za (l := [0, 1, 2, 3, 4, 5, 6, 7, 8, 9, 10]) rfl ?_; refine Zf ?_; refine Zfj Tryz.underlying9 ?_; refine Zav ?_; refine Zf ?_
  refine Zag 8 rfl (fun hc1 => ?_) (fun hc1 => ?_)
  ·replace hc1 := dT hc1
   iterate 2 refine Zf ?_
   refine Zag 10 rfl (fun hc2 => ?_) (fun hc2 => ?_)
   ·skip
    iterate 2 refine Zz ?_
    iterate 2 refine Zl ?_
    refine Zd ?_; refine Ze ?_; refine Zc ?_; refine Y_pk [4] ?_; refine Zak ?_
    refine Zaj (.inr rfl) (.tmp rfl .nil) (fun w hw => ?_)
    refine ⟨_, rfl, (hw.c), ?_⟩
    clear hw
    refine congrArg Value.bool ?_
    (simp_all [ValOk]; done)
   ·skip
    refine Zf ?_; refine Zgu ?_
    iterate 2 refine Zl ?_
    refine Zd ?_; refine Ze ?_; refine Zc ?_; refine Y_pk [4] ?_; refine Zak ?_
    refine Zaj (.inr rfl) (.tmp rfl .nil) (fun w hw => ?_)
    refine ⟨_, rfl, (hw.c), ?_⟩
    clear hw
    refine congrArg Value.bool ?_
    (simp_all [ValOk]; done)
  ·replace hc1 := dF hc1
   iterate 5 refine Zz ?_
   refine Zl ?_; refine Zd ?_; refine Ze ?_; refine Zc ?_; refine Y_pk [4] ?_; refine Zak ?_
   refine Zaj (.inr rfl) (.tmp rfl .nil) (fun w hw => ?_)
   refine ⟨_, rfl, (hw.c), ?_⟩
   clear hw
   refine congrArg Value.bool ?_
   exact (decide_eq_false (fun h9 => by unfold ValOk at h9; omega)).symm
theorem rIsAns_ok (M : Mem) (a : AnswerV) : Fs Tryz.prog 85 [a.enc] M (fun v => v = Value.bool (decide (AnsOk a))) := by
  obtain ⟨a_code, Zcw, Zfw, Zfv⟩ := a
  refine Zci Tryz.func85 rfl Tryz.ntmps85 rfl ?_; intro H
  refine Zj ?_; refine Za (l := [0, 1]) rfl ?_
  refine Zcz ?_; intro b1
  refine Zd ?_; refine Ze ?_; refine Zc ?_; refine Y_pk [2, 1] ?_; refine Zj ?_; refine Za (l := [0, 1, 2, 3, 4, 5, 6, 7, 8, 9, 10, 11, 12, 13]) rfl ?_; refine Zb F.foff34_3 ?_; refine Zi F.lay9 ?_; refine Zgu ?_; refine Zf ?_
  refine Zag 6 rfl (fun hc2 => ?_) (fun hc2 => ?_)
  ·replace hc2 := dT hc2
   refine Zb F.foff34_0 ?_; refine Zi F.lay32 ?_; refine Zav ?_; refine Zf ?_
   refine Zag 10 rfl (fun hc3 => ?_) (fun hc3 => ?_)
   ·replace hc3 := dT hc3
    iterate 3 refine Zz ?_
    iterate 2 refine Zl ?_
    refine Zd ?_; refine Ze ?_; refine Zc ?_; refine Y_pk [2] ?_; refine Zak ?_
    refine Zaj (.inr rfl) (.tmp rfl .nil) (fun w hw => ?_)
    refine ⟨_, rfl, (hw.c), ?_⟩
    clear hw
    refine congrArg Value.bool ?_
    simp_all [AnsOk]
   ·replace hc3 := dF hc3
    refine Zb F.foff34_0 ?_; refine Zi F.lay32 ?_; refine Zav ?_
    iterate 2 refine Zl ?_
    refine Zd ?_; refine Ze ?_; refine Zc ?_; refine Y_pk [2] ?_; refine Zak ?_
    refine Zaj (.inr rfl) (.tmp rfl .nil) (fun w hw => ?_)
    refine ⟨_, rfl, (hw.c), ?_⟩
    clear hw
    refine congrArg Value.bool ?_
    simp_all [AnsOk]
  ·replace hc2 := dF hc2
   iterate 8 refine Zz ?_
   refine Zl ?_; refine Zd ?_; refine Ze ?_; refine Zc ?_; refine Y_pk [2] ?_; refine Zak ?_
   refine Zaj (.inr rfl) (.tmp rfl .nil) (fun w hw => ?_)
   refine ⟨_, rfl, (hw.c), ?_⟩
   clear hw
   refine congrArg Value.bool ?_
   simp_all [AnsOk]
theorem CelIs_ok (M : Mem) (c : CellV) (hc0 : CellV.ok M c) : Fs Tryz.prog 47 [c.enc] M (fun v => v = Value.bool (decide (IsCel c.pl))) := by
  obtain ⟨Zbg, Zdv, Zdx, ⟨Zbi, Zbh, Zu⟩⟩ := c
  have Zbs : SlK M MarkV.segs 6 ⟨Zbi, Zbh, Zu⟩ := hc0.h0
  have s_c_marks : SlM M Zbi (Zu.map MarkV.segs) 6 := Zbs.h1
  have n_c_marks : (Zu.map MarkV.segs).length = Zu.length := List.length_map ..
  have m_c_marks : Zu.length ≤ 9223372036854775807 := Zbs.h2
  have c_c_marks : Zu.length ≤ Zbh := Zbs.h3
  refine Zci Tryz.func47 rfl Tryz.ntmps47 rfl ?_; intro H
  refine Zj ?_; refine Za (l := [0, 1]) rfl ?_
  refine Zcz ?_; intro b1
  refine Zd ?_; refine Ze ?_; refine Zc ?_; refine Y_pk [2, 1] ?_; refine Zj ?_; refine Za (l := [0]) rfl ?_; refine Zd ?_; refine Ze ?_; refine Zc ?_
  iterate 2 refine Zj ?_
  refine Za (l := [0, 1, 2, 3]) rfl ?_; refine Zb F.foff37_3 ?_; refine Zi F.lay35 ?_; refine Zbb F.elem35 ?_; refine Zf ?_; refine Ze ?_; refine Zc ?_; refine Y_pk [10, 9, 8, 3, 2, 1] ?_; refine Zbe ?_; refine Y_pk [10, 3, 9, 8, 2, 1] ?_; refine Zed (.succ (.succ .zero)) (fun (k : Nat) z => ∃ (last : Int), z = [(10, .int .i64 (k : Int)), (3, .int .i64 last)] ∧ k ≤ Zu.length ∧ (MarksOk (Zu.take k) ∧ (k = 0 → last = -1) ∧ (0 < k → (Zu[k - 1]?).map MarkV.client = some last))) (fun k => Zu.length - k) (0) (⟨-1, rfl, by omega, by (refine ⟨⟨fun m hm => by simp at hm, by simp⟩, fun _ => rfl, fun h => by omega⟩)⟩) ?_
  rintro k _ ⟨last, rfl, hk, hI⟩
  refine Zj ?_; refine Za (l := [0]) rfl ?_; refine Zav ?_; refine Ze ?_; refine Zc ?_; refine Zj ?_
  refine Zau rfl (fun hc2 => ?_) (fun hc2 => ?_)
  ·replace hc2 := dT hc2
   refine Zax ?_; refine Zc ?_; refine Zj ?_; refine Zbe ?_; refine Zj ?_; refine Za (l := [0, 1, 2, 3]) rfl ?_; refine Zaa rfl rfl rfl rfl F.elem35 (by rfl) (by omega) (by exact SlM.plain (by assumption) (by (simp; omega))) rfl ?_; refine Zay rfl rfl rfl (by assumption) (by exact Zbl (by omega)) F.lay92 rfl rfl rfl ?_
   refine Zby F.zero92 ?_; intro b3
   refine Zas F.lay92 ?_; refine Ze ?_; refine Zc ?_; refine Zj ?_; refine Za (l := [0, 1, 2, 3]) rfl ?_; refine Zb F.foff92_2 ?_; refine Zi F.lay34 ?_
   refine Zby F.zero34 ?_; intro b4
   refine Zas F.lay34 ?_; refine Ze ?_; refine Zc ?_
   iterate 2 refine Zj ?_
   refine Za (l := [0, 1, 2, 3, 4, 5, 6, 7, 8, 9, 10, 11, 12, 13, 14, 15, 16, 17, 18, 19, 20, 21, 22, 23]) rfl ?_; refine Zb F.foff92_0 ?_; refine Zi F.lay3 ?_; refine Zf ?_; refine Zav ?_; refine Zf ?_
   refine Zag 20 rfl (fun hc5 => ?_) (fun hc5 => ?_)
   ·replace hc5 := dT hc5
    simp only [List.get_eq_getElem] at hc5
    iterate 3 refine Zz ?_
    refine Zl ?_; refine Zf ?_
    iterate 3 refine Zz ?_
    refine Zl ?_; refine Zf ?_
    iterate 8 refine Zz ?_
    refine Zl ?_; refine Ze ?_; refine Zc ?_; refine Zcy rfl ?_; refine Zj ?_; refine Za (l := [0]) rfl ?_; refine Zd ?_; refine Ze ?_; refine Zc ?_; refine Zak ?_; refine Zba ?_; refine Zbj ?_
    iterate 2 refine Zba ?_
    refine Zbj ?_; refine Zba ?_
    refine Zaj (.inr rfl) (.tmp rfl .nil) (fun w hw => ?_)
    refine ⟨_, rfl, (hw.c), ?_⟩
    clear hw
    refine congrArg Value.bool (decide_eq_false (fun h9 => ?_)).symm
    have hv9 : ValOk Zdx Zdv := h9.1
    have hm9 : MarksOk Zu := h9.2
    have hl9 : 0 < k → (Zu[k - 1]'(by omega)).client = last := fun h0 => by
     have h8 := hI.2.2 h0
     rw [List.getElem?_eq_getElem (by omega)] at h8
     exact Option.some.inj h8
    obtain ⟨_, ⟨⟨g1, g2⟩, g3, g4⟩, g5⟩ := (Zfa (l := Zu) (k := k) (by omega)).1 (marks_pre hm9 (k + 1))
    rcases Nat.eq_zero_or_pos k with h0 | h0
    ·have h1 := hI.2.1 h0
     omega
    ·have h1 := hl9 h0
     have h2 := g5 h0
     omega
   ·replace hc5 := dF hc5
    simp only [List.get_eq_getElem] at hc5
    refine Zb F.foff92_0 ?_; refine Zi F.lay3 ?_; refine Zav ?_; refine Zl ?_; refine Zf ?_
    refine Zag 25 rfl (fun hc6 => ?_) (fun hc6 => ?_)
    ·replace hc6 := dT hc6
     simp only [List.get_eq_getElem] at hc6
     iterate 3 refine Zz ?_
     refine Zl ?_; refine Zf ?_
     iterate 8 refine Zz ?_
     refine Zl ?_; refine Ze ?_; refine Zc ?_; refine Zcy rfl ?_; refine Zj ?_; refine Za (l := [0]) rfl ?_; refine Zd ?_; refine Ze ?_; refine Zc ?_; refine Zak ?_; refine Zba ?_; refine Zbj ?_
     iterate 2 refine Zba ?_
     refine Zbj ?_; refine Zba ?_
     refine Zaj (.inr rfl) (.tmp rfl .nil) (fun w hw => ?_)
     refine ⟨_, rfl, (hw.c), ?_⟩
     clear hw
     refine congrArg Value.bool (decide_eq_false (fun h9 => ?_)).symm
     have hv9 : ValOk Zdx Zdv := h9.1
     have hm9 : MarksOk Zu := h9.2
     have hl9 : 0 < k → (Zu[k - 1]'(by omega)).client = last := fun h0 => by
      have h8 := hI.2.2 h0
      rw [List.getElem?_eq_getElem (by omega)] at h8
      exact Option.some.inj h8
     obtain ⟨_, ⟨⟨g1, g2⟩, g3, g4⟩, g5⟩ := (Zfa (l := Zu) (k := k) (by omega)).1 (marks_pre hm9 (k + 1))
     rcases Nat.eq_zero_or_pos k with h0 | h0
     ·have h1 := hI.2.1 h0
      omega
     ·have h1 := hl9 h0
      have h2 := g5 h0
      omega
    ·replace hc6 := dF hc6
     simp only [List.get_eq_getElem] at hc6
     refine Zb F.foff34_3 ?_; refine Zi F.lay9 ?_; refine Zgu ?_; refine Zl ?_; refine Zf ?_
     refine Zag 30 rfl (fun hc7 => ?_) (fun hc7 => ?_)
     ·replace hc7 := nT hc7
      simp only [List.get_eq_getElem] at hc7
      iterate 8 refine Zz ?_
      refine Zl ?_; refine Ze ?_; refine Zc ?_; refine Zcy rfl ?_; refine Zj ?_; refine Za (l := [0]) rfl ?_; refine Zd ?_; refine Ze ?_; refine Zc ?_; refine Zak ?_; refine Zba ?_; refine Zbj ?_
      iterate 2 refine Zba ?_
      refine Zbj ?_; refine Zba ?_
      refine Zaj (.inr rfl) (.tmp rfl .nil) (fun w hw => ?_)
      refine ⟨_, rfl, (hw.c), ?_⟩
      clear hw
      refine congrArg Value.bool (decide_eq_false (fun h9 => ?_)).symm
      have hv9 : ValOk Zdx Zdv := h9.1
      have hm9 : MarksOk Zu := h9.2
      have hl9 : 0 < k → (Zu[k - 1]'(by omega)).client = last := fun h0 => by
       have h8 := hI.2.2 h0
       rw [List.getElem?_eq_getElem (by omega)] at h8
       exact Option.some.inj h8
      obtain ⟨_, ⟨⟨g1, g2⟩, g3, g4⟩, g5⟩ := (Zfa (l := Zu) (k := k) (by omega)).1 (marks_pre hm9 (k + 1))
      rcases Nat.eq_zero_or_pos k with h0 | h0
      ·have h1 := hI.2.1 h0
       contradiction
      ·have h1 := hl9 h0
       have h2 := g5 h0
       contradiction
     ·replace hc7 := nF hc7
      simp only [List.get_eq_getElem] at hc7
      refine Zb F.foff34_0 ?_; refine Zi F.lay32 ?_; refine Zav ?_; refine Zf ?_
      refine Zag 34 rfl (fun hc8 => ?_) (fun hc8 => ?_)
      ·replace hc8 := nT hc8
       simp only [List.get_eq_getElem] at hc8
       refine Zb F.foff34_0 ?_; refine Zi F.lay32 ?_; refine Zav ?_
       iterate 2 refine Zl ?_
       refine Ze ?_; refine Zc ?_
       refine Zau rfl (fun hc9 => ?_) (fun hc9 => ?_)
       ·replace hc9 := nT hc9
        simp only [List.get_eq_getElem] at hc9
        refine Zj ?_; refine Za (l := [0]) rfl ?_; refine Zd ?_; refine Ze ?_; refine Zc ?_; refine Zak ?_; refine Zba ?_; refine Zbj ?_
        iterate 2 refine Zba ?_
        refine Zbj ?_; refine Zba ?_
        refine Zaj (.inr rfl) (.tmp rfl .nil) (fun w hw => ?_)
        refine ⟨_, rfl, (hw.c), ?_⟩
        clear hw
        refine congrArg Value.bool (decide_eq_false (fun h9 => ?_)).symm
        have hv9 : ValOk Zdx Zdv := h9.1
        have hm9 : MarksOk Zu := h9.2
        have hl9 : 0 < k → (Zu[k - 1]'(by omega)).client = last := fun h0 => by
         have h8 := hI.2.2 h0
         rw [List.getElem?_eq_getElem (by omega)] at h8
         exact Option.some.inj h8
        obtain ⟨_, ⟨⟨g1, g2⟩, g3, g4⟩, g5⟩ := (Zfa (l := Zu) (k := k) (by omega)).1 (marks_pre hm9 (k + 1))
        rcases Nat.eq_zero_or_pos k with h0 | h0
        ·have h1 := hI.2.1 h0
         (simp_all; done)
        ·have h1 := hl9 h0
         have h2 := g5 h0
         (simp_all; done)
       ·replace hc9 := nF hc9
        simp only [List.get_eq_getElem] at hc9
        refine Zax ?_; refine Zc ?_; refine Za (l := [0, 1, 2]) rfl ?_; refine Zb F.foff92_0 ?_; refine Zi F.lay3 ?_; refine Zd ?_; refine Ze ?_; refine Zde ?_; refine Zc ?_; refine Za (l := [0, 1]) rfl ?_; refine Zcc rfl rfl rfl rfl rfl (by exact Zbf (by decide) (by omega)) rfl ?_; refine Zf ?_; refine Ze ?_
        have hl9 : 0 < k → (Zu[k - 1]'(by omega)).client = last := fun h0 => by
         have h8 := hI.2.2 h0
         rw [List.getElem?_eq_getElem (by omega)] at h8
         exact Option.some.inj h8
        refine Zda (a' := [(10, _), (3, _)]) (k + 1) (.cons (k := 10) rfl (.cons (k := 3) rfl (.cons (k := 9) rfl (.cons (k := 8) rfl (.cons (k := 2) rfl (.cons (k := 1) rfl (.nil))))))) (fun w hw => by first | exact hw | exact hw.c) ?_ ?_
        ·refine ⟨_, rfl, by omega, ?_⟩
         (refine ⟨?_, ?_, ?_⟩)
         ·rw [Zfa (by omega)]
          refine ⟨hI.1, ⟨⟨?_, by omega⟩, ?_⟩, fun h0 => ?_⟩
          ·rcases Nat.eq_zero_or_pos k with h0 | h0
           ·have h1 := hI.2.1 h0; omega
           ·have h1 := hl9 h0; have h2 := (hI.1.1 _ (show Zu[k - 1] ∈ Zu.take k by rw [List.mem_take_iff_getElem]; exact ⟨k - 1, by omega, rfl⟩)).1.1; omega
          ·unfold AnsOk; simp_all
          ·have h1 := hl9 h0; omega
         ·intro h0; omega
         ·intro h0; rw [show k + 1 - 1 = k by omega, List.getElem?_eq_getElem (by omega)]; rfl
        ·omega
      ·replace hc8 := nF hc8
       simp only [List.get_eq_getElem] at hc8
       iterate 3 refine Zz ?_
       iterate 2 refine Zl ?_
       refine Ze ?_; refine Zc ?_; refine Zeu rfl ?_; refine Zax ?_; refine Zc ?_; refine Za (l := [0, 1, 2]) rfl ?_; refine Zb F.foff92_0 ?_; refine Zi F.lay3 ?_; refine Zd ?_; refine Ze ?_; refine Zde ?_; refine Zc ?_; refine Za (l := [0, 1]) rfl ?_; refine Zcc rfl rfl rfl rfl rfl (by exact Zbf (by decide) (by omega)) rfl ?_; refine Zf ?_; refine Ze ?_
       have hl9 : 0 < k → (Zu[k - 1]'(by omega)).client = last := fun h0 => by
        have h8 := hI.2.2 h0
        rw [List.getElem?_eq_getElem (by omega)] at h8
        exact Option.some.inj h8
       refine Zda (a' := [(10, _), (3, _)]) (k + 1) (.cons (k := 10) rfl (.cons (k := 3) rfl (.cons (k := 9) rfl (.cons (k := 8) rfl (.cons (k := 2) rfl (.cons (k := 1) rfl (.nil))))))) (fun w hw => by first | exact hw | exact hw.c) ?_ ?_
       ·refine ⟨_, rfl, by omega, ?_⟩
        (refine ⟨?_, ?_, ?_⟩)
        ·rw [Zfa (by omega)]
         refine ⟨hI.1, ⟨⟨?_, by omega⟩, ?_⟩, fun h0 => ?_⟩
         ·rcases Nat.eq_zero_or_pos k with h0 | h0
          ·have h1 := hI.2.1 h0; omega
          ·have h1 := hl9 h0; have h2 := (hI.1.1 _ (show Zu[k - 1] ∈ Zu.take k by rw [List.mem_take_iff_getElem]; exact ⟨k - 1, by omega, rfl⟩)).1.1; omega
         ·unfold AnsOk; simp_all
         ·have h1 := hl9 h0; omega
        ·intro h0; omega
        ·intro h0; rw [show k + 1 - 1 = k by omega, List.getElem?_eq_getElem (by omega)]; rfl
       ·omega
  ·replace hc2 := dF hc2
   refine Zcm ?_
   iterate 2 refine Zcd ?_
   refine Zdl ?_; refine Zc ?_; refine Y_pk [2, 1] ?_; refine Zj ?_; refine Za (l := [0, 1, 2, 3, 4, 5]) rfl ?_; refine Zb F.foff37_2 ?_; refine Zi F.lay9 ?_; refine Zb F.foff37_1 ?_; refine Zi F.lay4 ?_; refine X_fs rfl rfl F.ok83 rfl (val_ok _ _ _) rfl ?_
   rintro _ rfl
   refine Zd ?_; refine Ze ?_; refine Zc ?_; refine Y_pk [2] ?_; refine Zak ?_
   refine Zaj (.inr rfl) (.tmp rfl .nil) (fun w hw => ?_)
   refine ⟨_, rfl, (hw.c), ?_⟩
   clear hw
   obtain rfl : k = Zu.length := by omega
   rw [List.take_length] at hI
   exact congrArg Value.bool (decide_eq_decide.2 ⟨fun h9 => ⟨h9, hI.1⟩, fun h9 => h9.1⟩)
theorem rCelIs_ok (M : Mem) (c : CellV) (hc0 : CellV.ok M c) : Fs Tryz.prog 50 [c.enc] M (fun v => v = Value.bool (decide (IsCel c.pl))) := by
  obtain ⟨Zbg, Zdv, Zdx, ⟨Zbi, Zbh, Zu⟩⟩ := c
  have Zbs : SlK M MarkV.segs 6 ⟨Zbi, Zbh, Zu⟩ := hc0.h0
  have s_c_marks : SlM M Zbi (Zu.map MarkV.segs) 6 := Zbs.h1
  have n_c_marks : (Zu.map MarkV.segs).length = Zu.length := List.length_map ..
  have m_c_marks : Zu.length ≤ 9223372036854775807 := Zbs.h2
  have c_c_marks : Zu.length ≤ Zbh := Zbs.h3
  refine Zci Tryz.func50 rfl Tryz.ntmps50 rfl ?_; intro H
  refine Zj ?_; refine Za (l := [0, 1]) rfl ?_
  refine Zcz ?_; intro b1
  refine Zd ?_; refine Ze ?_; refine Zc ?_; refine Y_pk [2, 1] ?_
  iterate 2 refine Zj ?_
  refine Za (l := [0, 1, 2, 3, 4, 5]) rfl ?_; refine Zb F.foff37_2 ?_; refine Zi F.lay9 ?_; refine Zb F.foff37_1 ?_; refine Zi F.lay4 ?_; refine X_fs rfl rfl F.ok84 rfl (rVal_ok _ _ _) rfl ?_
  rintro _ rfl
  refine Zel ?_; refine Ze ?_; refine Zc ?_; refine Y_pk [10, 2, 1] ?_
  refine Zau rfl (fun hc2 => ?_) (fun hc2 => ?_)
  ·replace hc2 := nT hc2
   refine Zj ?_; refine Za (l := [0]) rfl ?_; refine Zd ?_; refine Ze ?_; refine Zc ?_; refine Y_pk [2, 1] ?_; refine Zak ?_; refine Zba ?_
   refine Zaj (.inr rfl) (.tmp rfl .nil) (fun w hw => ?_)
   refine ⟨_, rfl, (hw.c), ?_⟩
   clear hw
   refine congrArg Value.bool (decide_eq_false (fun h9 => ?_)).symm
   have hv9 : ValOk Zdx Zdv := h9.1
   have hm9 : MarksOk Zu := h9.2
   contradiction
  ·replace hc2 := nF hc2
   refine Zax ?_; refine Zc ?_; refine Y_pk [2, 1] ?_
   iterate 2 refine Zj ?_
   refine Za (l := [0]) rfl ?_; refine Zd ?_; refine Ze ?_; refine Zc ?_; refine Zbe ?_; refine Y_pk [3, 2, 1] ?_; refine Zed (.succ .zero) (fun (k : Nat) z => z = [(3, .int .i64 (k : Int))] ∧ k ≤ Zu.length ∧ (ValOk Zdx Zdv ∧ MarksOk (Zu.take k))) (fun k => Zu.length - k) (0) (⟨rfl, by omega, by (refine ⟨by assumption, fun m hm => by simp at hm, by simp⟩)⟩) ?_
   rintro k _ ⟨rfl, hk, hI⟩
   iterate 2 refine Zj ?_
   refine Za (l := [0, 1, 2, 3, 4]) rfl ?_; refine Zf ?_; refine Zb F.foff37_3 ?_; refine Zi F.lay35 ?_; refine Zbb F.elem35 ?_; refine Zav ?_; refine Ze ?_; refine Zc ?_
   refine Zau rfl (fun hc3 => ?_) (fun hc3 => ?_)
   ·replace hc3 := dT hc3
    refine Zax ?_; refine Zc ?_; refine Zj ?_; refine Zbe ?_; refine Zj ?_; refine Za (l := [0, 1, 2, 3, 4, 5, 6]) rfl ?_; refine Zb F.foff37_3 ?_; refine Zi F.lay35 ?_; refine Zf ?_; refine Zaa rfl rfl rfl rfl F.elem35 (by rfl) (by omega) (by exact SlM.plain (by assumption) (by (simp; omega))) rfl ?_; refine Zay rfl rfl rfl (by assumption) (by exact Zbl (by omega)) F.lay92 rfl rfl rfl ?_
    refine Zby F.zero92 ?_; intro b4
    refine Zas F.lay92 ?_; refine Ze ?_; refine Zc ?_; refine Zj ?_; refine Zar (l := [0, 1, 2, 3, 4, 5, 6, 7, 8, 9, 10, 11, 12, 13, 14, 15, 16, 17, 18, 19, 20, 21, 22, 23, 24, 25, 26, 27, 28, 29]) #[0, 1, 3, 7, 15, 31, 63, 127, 255, 511, 1023, 2047, 4095, 8191, 4095, 20479, 65535, 131071, 262143, 4095, 528383, 2097151, 4194303, 8388607, 16777215, 33554431, 67108863, 134217727, 268435455, 536870911] _ rfl (by kernel_rfl) (by kernel_rfl) St.drawn (fun _ h => h) ?_; refine Zb F.foff92_0 ?_; refine Zi F.lay3 ?_; refine Zav ?_; refine Zf ?_
    refine Zag 26 rfl (fun hc5 => ?_) (fun hc5 => ?_)
    ·replace hc5 := dT hc5
     simp only [List.get_eq_getElem] at hc5
     iterate 3 refine Zz ?_
     refine Zl ?_; refine Zf ?_
     iterate 14 refine Zz ?_
     refine Zl ?_; refine Zf ?_
     iterate 4 refine Zz ?_
     refine Zl ?_; refine Ze ?_; refine Zc ?_; refine Zcy rfl ?_; refine Zj ?_; refine Za (l := [0]) rfl ?_; refine Zd ?_; refine Ze ?_; refine Zc ?_; refine Zak ?_; refine Zbj ?_
     iterate 2 refine Zba ?_
     refine Zbj ?_; refine Zba ?_
     refine Zaj (.inr rfl) (.tmp rfl .nil) (fun w hw => ?_)
     refine ⟨_, rfl, (hw.c), ?_⟩
     clear hw
     refine congrArg Value.bool (decide_eq_false (fun h9 => ?_)).symm
     have hv9 : ValOk Zdx Zdv := h9.1
     have hm9 : MarksOk Zu := h9.2
     obtain ⟨_, ⟨⟨g1, g2⟩, g3, g4⟩, g5⟩ := (Zfa (l := Zu) (k := k) (by omega)).1 (marks_pre hm9 (k + 1))
     omega
    ·replace hc5 := dF hc5
     simp only [List.get_eq_getElem] at hc5
     refine Zb F.foff92_0 ?_; refine Zi F.lay3 ?_; refine Zav ?_; refine Zl ?_; refine Zf ?_
     refine Zag 31 rfl (fun hc6 => ?_) (fun hc6 => ?_)
     ·replace hc6 := dT hc6
      simp only [List.get_eq_getElem] at hc6
      iterate 14 refine Zz ?_
      refine Zl ?_; refine Zf ?_
      iterate 4 refine Zz ?_
      refine Zl ?_; refine Ze ?_; refine Zc ?_; refine Zcy rfl ?_; refine Zj ?_; refine Za (l := [0]) rfl ?_; refine Zd ?_; refine Ze ?_; refine Zc ?_; refine Zak ?_; refine Zbj ?_
      iterate 2 refine Zba ?_
      refine Zbj ?_; refine Zba ?_
      refine Zaj (.inr rfl) (.tmp rfl .nil) (fun w hw => ?_)
      refine ⟨_, rfl, (hw.c), ?_⟩
      clear hw
      refine congrArg Value.bool (decide_eq_false (fun h9 => ?_)).symm
      have hv9 : ValOk Zdx Zdv := h9.1
      have hm9 : MarksOk Zu := h9.2
      obtain ⟨_, ⟨⟨g1, g2⟩, g3, g4⟩, g5⟩ := (Zfa (l := Zu) (k := k) (by omega)).1 (marks_pre hm9 (k + 1))
      omega
     ·replace hc6 := dF hc6
      simp only [List.get_eq_getElem] at hc6
      refine Zf ?_; refine Zav ?_; refine Zf ?_
      refine Zag 34 rfl (fun hc7 => ?_) (fun hc7 => ?_)
      ·replace hc7 := dT hc7
       refine Zb F.foff37_3 ?_; refine Zi F.lay35 ?_; refine Zf ?_; refine Zcc rfl rfl rfl rfl rfl (by exact Zbf (by decide) (by omega)) rfl ?_; refine Zaa rfl rfl rfl rfl F.elem35 (by exact (Int.toNat_of_nonneg (by omega)).symm) (by omega) (by exact SlM.plain (by assumption) (by (simp; omega))) rfl ?_; refine Zaq rfl rfl rfl (by exact SlM.plain (by assumption) (by (simp; omega))) F.foff92_0 rfl ?_; refine Zay rfl rfl rfl (by assumption) (by exact Zbl (by omega)) F.lay3 rfl rfl rfl ?_; refine Zb F.foff92_0 ?_; refine Zi F.lay3 ?_; refine Zav ?_
       iterate 2 refine Zl ?_
       refine Zf ?_
       refine Zag 47 rfl (fun hc8 => ?_) (fun hc8 => ?_)
       ·replace hc8 := dT hc8
        simp only [List.get_eq_getElem] at hc8
        iterate 4 refine Zz ?_
        refine Zl ?_; refine Ze ?_; refine Zc ?_; refine Zcy rfl ?_; refine Zj ?_; refine Za (l := [0]) rfl ?_; refine Zd ?_; refine Ze ?_; refine Zc ?_; refine Zak ?_; refine Zbj ?_
        iterate 2 refine Zba ?_
        refine Zbj ?_; refine Zba ?_
        refine Zaj (.inr rfl) (.tmp rfl .nil) (fun w hw => ?_)
        refine ⟨_, rfl, (hw.c), ?_⟩
        clear hw
        refine congrArg Value.bool (decide_eq_false (fun h9 => ?_)).symm
        have hv9 : ValOk Zdx Zdv := h9.1
        have hm9 : MarksOk Zu := h9.2
        obtain ⟨_, ⟨⟨g1, g2⟩, g3, g4⟩, g5⟩ := (Zfa (l := Zu) (k := k) (by omega)).1 (marks_pre hm9 (k + 1))
        (have h2 := g5 (by omega); have e9 : (Zu[((k : Int) - 1).toNat]'(by omega)).client = (Zu[k - 1]'(by omega)).client := (by congr 2; omega); omega)
       ·replace hc8 := dF hc8
        simp only [List.get_eq_getElem] at hc8
        refine Zb F.foff92_2 ?_; refine Zi F.lay34 ?_; refine X_fs rfl rfl F.ok85 rfl (rIsAns_ok _ ⟨_, _, _, _⟩) rfl ?_
        rintro _ rfl
        refine Zel ?_; refine Zl ?_; refine Ze ?_; refine Zc ?_
        refine Zau rfl (fun hc9 => ?_) (fun hc9 => ?_)
        ·replace hc9 := nT hc9
         simp only [AnswerV.eta, MarkV.eta, CellV.eta, HeldV.eta, WaitV.eta, ServerV.eta, PeerV.eta, OpV.eta, ParcelV.eta, PostV.eta, WorkerV.eta] at hc9
         simp only [List.get_eq_getElem] at hc9
         refine Zj ?_; refine Za (l := [0]) rfl ?_; refine Zd ?_; refine Ze ?_; refine Zc ?_; refine Zak ?_; refine Zbj ?_
         iterate 2 refine Zba ?_
         refine Zbj ?_; refine Zba ?_
         refine Zaj (.inr rfl) (.tmp rfl .nil) (fun w hw => ?_)
         refine ⟨_, rfl, (hw.c), ?_⟩
         clear hw
         refine congrArg Value.bool (decide_eq_false (fun h9 => ?_)).symm
         have hv9 : ValOk Zdx Zdv := h9.1
         have hm9 : MarksOk Zu := h9.2
         obtain ⟨_, ⟨⟨g1, g2⟩, g3, g4⟩, g5⟩ := (Zfa (l := Zu) (k := k) (by omega)).1 (marks_pre hm9 (k + 1))
         (simp_all [AnsOk]; done)
        ·replace hc9 := nF hc9
         simp only [AnswerV.eta, MarkV.eta, CellV.eta, HeldV.eta, WaitV.eta, ServerV.eta, PeerV.eta, OpV.eta, ParcelV.eta, PostV.eta, WorkerV.eta] at hc9
         simp only [List.get_eq_getElem] at hc9
         refine Zax ?_; refine Zde ?_; refine Zc ?_; refine Za (l := [0, 1, 2]) rfl ?_; refine Zf ?_; refine Zcc rfl rfl rfl rfl rfl (by exact Zbf (by decide) (by omega)) rfl ?_; refine Zd ?_; refine Ze ?_; refine Zda (a' := [(3, _)]) (k + 1) (.cons (k := 3) rfl (.cons (k := 2) rfl (.cons (k := 1) rfl (.nil)))) (fun w hw => by first | exact hw | exact hw.c) ?_ ?_
         ·refine ⟨rfl, by omega, ?_⟩
          (refine ⟨hI.1, ?_⟩)
          rw [Zfa (by omega)]
          refine ⟨hI.2, ⟨⟨by omega, by omega⟩, by assumption⟩, fun h0 => ?_⟩
          (simp_all; done)
         ·omega
      ·replace hc7 := dF hc7
       iterate 10 refine Zz ?_
       iterate 2 refine Zl ?_
       refine Zf ?_; refine Zb F.foff92_2 ?_; refine Zi F.lay34 ?_; refine X_fs rfl rfl F.ok85 rfl (rIsAns_ok _ ⟨_, _, _, _⟩) rfl ?_
       rintro _ rfl
       refine Zel ?_; refine Zl ?_; refine Ze ?_; refine Zc ?_
       refine Zau rfl (fun hc10 => ?_) (fun hc10 => ?_)
       ·replace hc10 := nT hc10
        simp only [AnswerV.eta, MarkV.eta, CellV.eta, HeldV.eta, WaitV.eta, ServerV.eta, PeerV.eta, OpV.eta, ParcelV.eta, PostV.eta, WorkerV.eta] at hc10
        simp only [List.get_eq_getElem] at hc10
        refine Zj ?_; refine Za (l := [0]) rfl ?_; refine Zd ?_; refine Ze ?_; refine Zc ?_; refine Zak ?_; refine Zbj ?_
        iterate 2 refine Zba ?_
        refine Zbj ?_; refine Zba ?_
        refine Zaj (.inr rfl) (.tmp rfl .nil) (fun w hw => ?_)
        refine ⟨_, rfl, (hw.c), ?_⟩
        clear hw
        refine congrArg Value.bool (decide_eq_false (fun h9 => ?_)).symm
        have hv9 : ValOk Zdx Zdv := h9.1
        have hm9 : MarksOk Zu := h9.2
        obtain ⟨_, ⟨⟨g1, g2⟩, g3, g4⟩, g5⟩ := (Zfa (l := Zu) (k := k) (by omega)).1 (marks_pre hm9 (k + 1))
        (simp_all [AnsOk]; done)
       ·replace hc10 := nF hc10
        simp only [AnswerV.eta, MarkV.eta, CellV.eta, HeldV.eta, WaitV.eta, ServerV.eta, PeerV.eta, OpV.eta, ParcelV.eta, PostV.eta, WorkerV.eta] at hc10
        simp only [List.get_eq_getElem] at hc10
        refine Zax ?_; refine Zde ?_; refine Zc ?_; refine Za (l := [0, 1, 2]) rfl ?_; refine Zf ?_; refine Zcc rfl rfl rfl rfl rfl (by exact Zbf (by decide) (by omega)) rfl ?_; refine Zd ?_; refine Ze ?_; refine Zda (a' := [(3, _)]) (k + 1) (.cons (k := 3) rfl (.cons (k := 2) rfl (.cons (k := 1) rfl (.nil)))) (fun w hw => by first | exact hw | exact hw.c) ?_ ?_
        ·refine ⟨rfl, by omega, ?_⟩
         (refine ⟨hI.1, ?_⟩)
         rw [Zfa (by omega)]
         refine ⟨hI.2, ⟨⟨by omega, by omega⟩, by assumption⟩, fun h0 => ?_⟩
         omega
        ·omega
   ·replace hc3 := dF hc3
    refine Zcm ?_
    iterate 2 refine Zcd ?_
    refine Zdl ?_; refine Zc ?_; refine Y_pk [2] ?_; refine Zj ?_; refine Za (l := [0]) rfl ?_; refine Zd ?_; refine Ze ?_; refine Zc ?_; refine Zak ?_
    refine Zaj (.inr rfl) (.tmp rfl .nil) (fun w hw => ?_)
    refine ⟨_, rfl, (hw.c), ?_⟩
    clear hw
    obtain rfl : k = Zu.length := by omega
    rw [List.take_length] at hI
    exact congrArg Value.bool (decide_eq_true (show IsCel ⟨Zbg, Zdv, Zdx, Zu⟩ from hI)).symm
end Go.Proofs.YtpkeilhilpogiaaGreat
namespace Go.Proofs.YtpkeilhilpogiaaGreat
open Go.Esp
theorem F.bld92 : Bld Tryz.prog 92 [[.one (.int .i64 0)], [.one (.int .u64 0)], [.one (.int .i64 0), .one (.int .u64 0), .one (.bool false), .one (.string ⟨#[]⟩)]] := ⟨by kernel_rfl, by kernel_rfl⟩
theorem F.ok109 : okFn Tryz.prog 109 = true := by kernel_rfl
theorem F.ok110 : okFn Tryz.prog 110 = true := by kernel_rfl
theorem F.ok111 : okFn Tryz.prog 111 = true := by kernel_rfl
theorem F.ok92 : okFn Tryz.prog 92 = true := by kernel_rfl
theorem F.ok99 : okFn Tryz.prog 99 = true := by kernel_rfl
theorem find1_ok (M : Mem) (m : MarkV) (c : Int) (h1 : 0 ≤ m.client ∧ m.client ≤ 63) (h2 : 0 ≤ c ∧ c ≤ 63) : Fs Tryz.prog 110 [m.enc, .int .i64 c] M (fun v => v = Value.int .i64 (m.client - c)) := by
  obtain ⟨Zdf, Zfy, ⟨Zdc, Zch, Zdj, Zdi⟩⟩ := m
  simp only at h1
  refine Zci Tryz.func110 rfl Tryz.ntmps110 rfl ?_; intro H
  refine Zj ?_; refine Za (l := [0, 1]) rfl ?_
  refine Zcz ?_; intro b1
  refine Zd ?_; refine Ze ?_; refine Zc ?_; refine Y_pk [4, 2, 1] ?_; refine Zj ?_; refine Za (l := [0, 1, 2, 3, 4]) rfl ?_; refine Zb F.foff92_0 ?_; refine Zi F.lay3 ?_; refine Zf ?_; refine Zcc rfl rfl rfl rfl rfl (by exact Zbf (by decide) (by omega)) rfl ?_; refine Zd ?_; refine Ze ?_; refine Zc ?_; refine Y_pk [4] ?_; refine Zak ?_
  refine Zaj (.inr rfl) (.tmp rfl .nil) (fun w hw => ?_)
  refine ⟨_, rfl, (hw.c), ?_⟩
  clear hw
  rfl
theorem find_rd (M : Mem) (Hin : Hp) (l : Sl MarkV) (c : Int) (hl : RdS M Hin l.a (l.l.map MarkV.segs) 6) (bl : l.l.length ≤ 1000000) (hm : MarksOk l.l) (hc : 0 ≤ c ∧ c ≤ 63) : Fo Tryz.prog 92 [l.val, .int .i64 c] M Hin (fun M' v => M' = M ∧ v = .tuple #[.int .i64 ((atM l.l c : Nat) : Int), .bool (isM l.l c)]) := by
  refine Zfq Tryz.func92 rfl Tryz.ntmps92 rfl ?_; intro H
  refine Zj ?_; refine Za (l := [0, 1]) rfl ?_
  iterate 2 refine Zd ?_
  refine Ze ?_; refine Zc ?_; refine Zj ?_; refine Za (l := [0, 1, 2, 3, 4, 5, 6]) rfl ?_
  iterate 2 refine Zf ?_
  refine X_fo rfl rfl F.ok109 rfl (BSK_rd _ Hin l _ 110 [] (fun m => m.client - c) hl bl F.ok110 (fun x hx => (find1_ok M x c (hm.1 x hx).1 hc).foE Hin) (fun i j hi hj hij h => marks_mono hm i j hi hj hij h)) (by repeat first | exact Rem.here _ | exact Rem.two | apply Rem.skip | apply Rem.over) (Zbq rfl) ?_
  rintro _ M1 _ ⟨hM1, rfl⟩; subst M1
  rw [atM_bs, isM_bs]
  iterate 2 refine Zcf ?_
  iterate 2 refine Zd ?_
  refine Ze ?_; refine Zc ?_; refine Y_pk [5, 4] ?_; refine Zak ?_
  refine Zaj (.inr rfl) (.tmp rfl (.tmp rfl .nil)) (fun w hw => ?_)
  refine ⟨_, M, rfl, Mem.le.refl M, hw.c, rfl, ?_⟩
  clear hw
  rfl
theorem find_ok (M : Mem) (l : Sl MarkV) (c : Int) (k : SlK M MarkV.segs 6 l) (hm : MarksOk l.l) (hc : 0 ≤ c ∧ c ≤ 63) : Fs Tryz.prog 92 [l.val, .int .i64 c] M (fun v => v = .tuple #[.int .i64 ((atM l.l c : Nat) : Int), .bool (isM l.l c)]) :=
  fs_of_fo (find_rd M [] l c (k.h1.rd []) (by have := marks_len hm; omega) hm hc)
theorem put_ok (M : Mem) (l : (Sl MarkV)) (m : MarkV) (hl0 : SlK M MarkV.segs 6 l) (hm : MarksOk l.l) (hk : MarkOk m) : Esp.Fn Tryz.prog 93 [Sl.val l, m.enc] M (fun M' v => ∃ s : Sl MarkV, v = s.val ∧ s.l = putM l.l m ∧ SlK M' MarkV.segs 6 s) := by
  obtain ⟨l_a, l_c, l_l⟩ := l
  obtain ⟨Zdf, Zfy, ⟨Zdc, Zch, Zdj, Zdi⟩⟩ := m
  have k_l : SlK M MarkV.segs 6 ⟨l_a, l_c, l_l⟩ := hl0
  have s_l : SlM M l_a (l_l.map MarkV.segs) 6 := k_l.h1
  have n_l : (l_l.map MarkV.segs).length = l_l.length := List.length_map ..
  have m_l : l_l.length ≤ 9223372036854775807 := k_l.h2
  have c_l : l_l.length ≤ l_c := k_l.h3
  have hlen := marks_len hm
  have hcl := hk.1
  simp only at hlen hcl hm
  refine Zek Tryz.func93 rfl Tryz.ntmps93 rfl ?_; intro H
  refine Zj ?_; refine Za (l := [0, 1]) rfl ?_
  refine Zcz ?_; intro b1
  refine Zd ?_; refine Ze ?_; refine Zc ?_; refine Y_pk [4, 3, 0] ?_; refine Zj ?_; refine Za (l := [0, 1, 2]) rfl ?_; refine Zf ?_; refine Zgy rfl rfl F.ok99 rfl (CloneK_ok _ _ _ _ k_l (by omega)) (by repeat first | exact Rem.here _ | exact Rem.two | apply Rem.skip | apply Rem.over) (fun _ _ _ hm hw => (hw.lower (by exact hm)).c) (Zbq rfl) ?_
  rintro v0 M1 hs0 hm1 ⟨hM1, ho0⟩; subst M1
  obtain ⟨ad0, cp0, rfl⟩ := ho0.valL
  refine Zd ?_; refine Ze ?_; refine Zc ?_; refine Y_pk [0, 4, 3] ?_; refine Zj ?_; refine Za (l := [0, 1, 2, 3, 4, 5, 6, 7, 8]) rfl ?_; refine Zf ?_; refine Zb F.foff92_0 ?_; refine Zi F.lay3 ?_; refine X_fo rfl rfl F.ok92 rfl (find_rd _ hs0 ⟨ad0, cp0, l_l⟩ Zdf (ho0.rd _) (by show l_l.length ≤ 1000000; omega) hm hcl) (by repeat first | exact Rem.here _ | exact Rem.two | apply Rem.skip | apply Rem.over) (Zbq rfl) ?_
  rintro _ M1 _ ⟨hM1, rfl⟩; subst M1
  refine Zf ?_
  iterate 2 refine Zcf ?_
  iterate 2 refine Zd ?_
  refine Ze ?_; refine Zc ?_; refine Y_pk [6, 5, 0, 4, 3] ?_
  iterate 2 refine Zj ?_
  refine Za (l := [0, 1]) rfl ?_; refine Zf ?_; refine Zel ?_; refine Ze ?_; refine Zc ?_; refine Y_pk [17, 5, 0, 4, 3] ?_
  refine Zau rfl (fun hc2 => ?_) (fun hc2 => ?_)
  ·skip
   simp only [AnswerV.eta, MarkV.eta, CellV.eta, HeldV.eta, WaitV.eta, ServerV.eta, PeerV.eta, OpV.eta, ParcelV.eta, PostV.eta, WorkerV.eta] at hc2
   refine Zj ?_; refine C_regionR (l := [0, 1, 2, 3, 4, 5]) (Hin := hs0) (by repeat first | exact Rem.here _ | exact Rem.two | apply Rem.skip | apply Rem.over) rfl ?_
   iterate 2 refine Zf ?_
   refine Zi F.lay92 ?_
   refine Zbt rfl rfl F.elem35 F.zero92 rfl rfl (.cons rfl (by constructor) .nil) rfl rfl (by simp only [List.map_cons, List.map_nil] <;> rfl) rfl ?_; intro b3 hob4
   refine X_fhR2 rfl rfl F.ok111 rfl (InsertK_ok _ ad0 cp0 l_l hs0 (atM l_l Zdf) (atM_le _ _) ⟨Zdf, Zfy, ⟨Zdc, Zch, Zdj, Zdi⟩⟩ _ _ hob4 (by omega) ho0) (by repeat first | exact Rem.here _ | exact Rem.two | apply Rem.skip | apply Rem.over) (by repeat first | exact Rem.here _ | exact Rem.two | apply Rem.skip | apply Rem.over) (by rintro v M9 Hout w hm ⟨rfl, _⟩ hw; exact hw.c) (Zbq rfl) ?_
   rintro v7 M1 hs7 hm2 ⟨hM1, ho6⟩; subst M1
   refine Zd ?_; refine Ze ?_; refine Zc ?_; refine Y_pk [4, 5, 0, 3] ?_; refine Zak ?_; refine Zba ?_
   refine Zaj (.inr rfl) (.tmp rfl .nil) (fun w hw => ?_)
   have ho7 : OSl 92 6 v7 hs7 ((putM l_l ⟨Zdf, Zfy, ⟨Zdc, Zch, Zdj, Zdi⟩⟩).map MarkV.segs) := by rw [putM_not (by simp_all)]; exact ho6
   have hw9 : St _ (hs7 ++ H) w := hw.c
   obtain ⟨M9, s9, g1, g2, g3, g4, g5⟩ := ho7.freezeK hw9
   exact ⟨_, M9, rfl, g1, g2, s9, g3, g4, g5⟩
  ·skip
   simp only [AnswerV.eta, MarkV.eta, CellV.eta, HeldV.eta, WaitV.eta, ServerV.eta, PeerV.eta, OpV.eta, ParcelV.eta, PostV.eta, WorkerV.eta] at hc2
   refine Zax ?_; refine Zc ?_; refine Y_pk [5, 0, 4, 3] ?_; refine Zj ?_
   have hisM : isM l_l Zdf = true := by simp_all
   have hlt := Zgt hisM
   obtain ⟨b0, rfl⟩ : ∃ b, ad0 = some ⟨b, 0, none⟩ := by
    cases ad0 with
    |none => rw [(ho0.noneAll).1] at hlt; cases hlt
    |some ad => obtain ⟨b, rfl⟩ := ho0.someAll; exact ⟨b, rfl⟩
   refine Za (l := [0, 1, 2, 3, 4]) rfl ?_
   iterate 2 refine Zf ?_
   refine Zi F.lay92 ?_; refine Zaa rfl rfl rfl rfl F.elem35 (by rfl) (by omega) (by exact ⟨_, _, rfl⟩) rfl ?_
   refine X_storeO (b := b0) (j := atM l_l Zdf) rfl rfl rfl rfl (by constructor) (MarkV.flat ⟨Zdf, Zfy, ⟨Zdc, Zch, Zdj, Zdi⟩⟩) F.lay92 rfl rfl ho0 (by repeat first | exact Rem.here _ | exact Rem.two | apply Rem.skip | apply Rem.over) (by rw [List.length_map]; exact hlt) ?_; intro hs5 ho5
   refine Ze ?_; refine Zc ?_; refine Y_pk [0, 4] ?_; refine Zj ?_; refine Za (l := [0, 1]) rfl ?_; refine Zf ?_; refine Zd ?_; refine Ze ?_; refine Zc ?_; refine Y_pk [4] ?_; refine Zak ?_
   refine Zaj (.inr rfl) (.tmp rfl .nil) (fun w hw => ?_)
   have e7 : ((l_l.map MarkV.segs).set (atM l_l Zdf) (MarkV.segs ⟨Zdf, Zfy, ⟨Zdc, Zch, Zdj, Zdi⟩⟩)) = (putM l_l ⟨Zdf, Zfy, ⟨Zdc, Zch, Zdj, Zdi⟩⟩).map MarkV.segs := by rw [putM_is hisM, List.map_set]
   have ho7 := ho5
   rw [e7] at ho7
   have hw9 : St _ (hs5 ++ H) w := hw.c
   obtain ⟨M9, s9, g1, g2, g3, g4, g5⟩ := ho7.freezeK hw9
   exact ⟨_, M9, rfl, g1, g2, s9, by rw [← g3, List.length_map]; rfl, g4, g5⟩
theorem mark_ok (M : Mem) (l : (Sl MarkV)) (m : MarkV) (hl0 : SlK M MarkV.segs 6 l) (hm : MarksOk l.l) (hk : MarkOk m) : Esp.Fn Tryz.prog 76 [Sl.val l, m.enc] M (fun M' v => ∃ s : Sl MarkV, v = s.val ∧ s.l = putM l.l m ∧ SlK M' MarkV.segs 6 s) := by
  obtain ⟨l_a, l_c, l_l⟩ := l
  obtain ⟨Zdf, Zfy, ⟨Zdc, Zch, Zdj, Zdi⟩⟩ := m
  have k_l : SlK M MarkV.segs 6 ⟨l_a, l_c, l_l⟩ := hl0
  have s_l : SlM M l_a (l_l.map MarkV.segs) 6 := k_l.h1
  have n_l : (l_l.map MarkV.segs).length = l_l.length := List.length_map ..
  have m_l : l_l.length ≤ 9223372036854775807 := k_l.h2
  have c_l : l_l.length ≤ l_c := k_l.h3
  have hlen := marks_len hm
  have hcl := hk.1
  simp only at hlen hcl hm
  refine Zek Tryz.func76 rfl Tryz.ntmps76 rfl ?_; intro H
  refine Zj ?_; refine Za (l := [0, 1]) rfl ?_
  refine Zcz ?_; intro b1
  refine Zd ?_; refine Ze ?_; refine Zc ?_; refine Y_pk [4, 3, 0] ?_; refine Zj ?_; refine Za (l := [0]) rfl ?_; refine Zd ?_; refine Ze ?_; refine Zc ?_; refine Zj ?_; refine Za (l := [0]) rfl ?_; refine Zd ?_; refine Ze ?_; refine Zc ?_; refine Zj ?_; refine Zbe ?_; refine Y_pk [6, 5, 4, 3, 0] ?_; refine Zeo (Hin := []) (.succ (.succ .zero)) (by repeat first | exact Rem.here _ | exact Rem.two | apply Rem.skip | apply Rem.over) (fun (k : Nat) M1 h1 z => ∃ v, M1 = M ∧ z = [(6, .int .i64 (k : Int)), (5, v)] ∧ k ≤ l_l.length ∧ (∀ j, j < k → clt l_l Zdf j = false) ∧ OSl 92 6 v h1 ((l_l.take (k)).map MarkV.segs)) (fun k => l_l.length - k) (0) (⟨_, rfl, rfl, by omega, fun j hj => by omega, OSl.nil⟩) ?_
  rintro k M1 h1 z hm1 ⟨v0, hM1, rfl, hk9, hI, ho⟩
  subst hM1
  obtain ⟨ad0, cp0, rfl⟩ := ho.val
  have hml : ((l_l.take (k)).map MarkV.segs).length = k := by simp; omega
  rw [hml] at ho ⊢
  iterate 2 refine Zj ?_
  refine Zar (l := [0, 1, 2, 3, 4, 5, 6, 7, 8, 9, 10, 11, 12, 13]) #[0, 0, 2, 7, 15, 31, 31, 127, 255, 511, 31, 1055, 4095, 8191] _ rfl (by kernel_rfl) (by kernel_rfl) St.drawn (fun _ h => h) ?_
  iterate 2 refine Zf ?_
  refine Zbb F.elem35 ?_; refine Zav ?_; refine Zf ?_
  refine Zag 11 rfl (fun hc2 => ?_) (fun hc2 => ?_)
  ·replace hc2 := dT hc2
   iterate 2 refine Zf ?_
   refine Zaa rfl rfl rfl rfl F.elem35 (by rfl) (by omega) (by exact SlM.plain (by assumption) (by (simp; omega))) rfl ?_; refine Zaq rfl rfl rfl (by exact SlM.plain (by assumption) (by (simp; omega))) F.foff92_0 rfl ?_; refine Zay rfl rfl rfl (by assumption) (by exact Zbl (by omega)) F.lay3 rfl rfl rfl ?_; refine Zb F.foff92_0 ?_; refine Zi F.lay3 ?_; refine Zav ?_; refine Zl ?_; refine Ze ?_; refine Zc ?_
   refine Zau rfl (fun hc3 => ?_) (fun hc3 => ?_)
   ·replace hc3 := dT hc3
    simp only [List.get_eq_getElem] at hc3
    refine Zax ?_; refine Zc ?_; refine Zbe ?_; refine Zj ?_; refine Za (l := [0, 1, 2, 3, 4, 5, 6, 7]) rfl ?_
    iterate 3 refine Zf ?_
    refine Zaa rfl rfl rfl rfl F.elem35 (by rfl) (by omega) (by exact SlM.plain (by assumption) (by (simp; omega))) rfl ?_; refine Zay rfl rfl rfl (by assumption) (by exact Zbl (by omega)) F.lay92 rfl rfl rfl ?_
    refine Zbt rfl rfl F.elem35 F.zero92 rfl rfl (.cons rfl (by constructor) .nil) rfl rfl (by simp only [List.map_cons, List.map_nil] <;> rfl) rfl ?_; intro b4 hob5
    refine Zdn (m := 1000000) rfl rfl rfl rfl rfl F.elem35 F.zero92 (by rfl) rfl (by assumption) (by repeat first | exact Rem.here _ | exact Rem.two | apply Rem.skip | apply Rem.over) (Src.own hob5.lens (by (refine Zdy ?_; (repeat (first | exact Zbp | refine Zcb ?_ | (refine Zam ?_ ?_; rfl))); done)) rfl (by repeat first | exact List.Mem.head _ | refine List.Mem.tail _ ?_ | refine List.mem_append_right _ ?_)) (by (simp; omega)) (by decide) rfl ?_; intro v8 hs7 ho6; obtain ⟨adv8, cpv8, rfl⟩ := ho6.val
    refine Zd ?_; refine Ze ?_; refine Zc ?_; refine Za (l := [0, 1, 2]) rfl ?_; refine Zf ?_; refine Zcc rfl rfl rfl rfl rfl (by exact Zbf (by decide) (by omega)) rfl ?_; refine Zd ?_; refine Ze ?_; refine Zde ?_; refine Zcr (a' := [(6, _), (5, _)]) (k + 1) (hs7) (.cons (k := 6) rfl (.cons (k := 5) rfl (.cons (k := 4) rfl (.cons (k := 3) rfl (.cons (k := 0) rfl (.nil)))))) (by exact Mem.le.refl _) (fun w hw => by first | exact hw | exact hw.c) ?_ ?_
    ·refine ⟨_, rfl, rfl, by omega, fun j hj => ?_, ?_⟩
     ·rcases Nat.lt_or_ge j k with h9 | h9
      ·exact hI j h9
      ·obtain rfl : j = k := by omega
       rw [clt_at (by omega)]; exact decide_eq_false (by omega)
     ·rw [take_map_succ _ (by omega)]
      exact ho6
    ·omega
   ·replace hc3 := dF hc3
    simp only [List.get_eq_getElem] at hc3
    refine Zcm ?_
    iterate 2 refine Zcd ?_
    refine Zdl ?_; refine Zc ?_; refine Y_pk [6, 5, 4, 3, 0] ?_; refine Zj ?_
    have hat : atM l_l Zdf = k := firstP_at hk9 hI (fun h9 => by rw [clt_at h9]; exact decide_eq_true (by omega))
    have k_d0 := k_l.drop k hk9
    refine Za (l := [0, 1, 2, 3, 4]) rfl ?_; refine Zf ?_; refine Zi F.lay92 ?_
    refine Zbt rfl rfl F.elem35 F.zero92 rfl rfl (.cons rfl (by constructor) .nil) rfl rfl (by simp only [List.map_cons, List.map_nil] <;> rfl) rfl ?_; intro b9 hob10
    refine Zdn (m := 1000000) rfl rfl rfl rfl rfl F.elem35 F.zero92 (by rfl) rfl (by assumption) (by repeat first | exact Rem.here _ | exact Rem.two | apply Rem.skip | apply Rem.over) (Src.own hob10.lens (by (refine Zdy ?_; (repeat (first | exact Zbp | refine Zcb ?_ | (refine Zam ?_ ?_; rfl))); done)) rfl (by repeat first | exact List.Mem.head _ | refine List.Mem.tail _ ?_ | refine List.mem_append_right _ ?_)) (by (simp; omega)) (by decide) rfl ?_; intro v13 hs12 ho11; obtain ⟨adv13, cpv13, rfl⟩ := ho11.val
    refine Zd ?_; refine Ze ?_; refine Zc ?_; refine Y_pk [5, 6, 4, 3, 0] ?_
    iterate 2 refine Zj ?_
    refine Zar (l := [0, 1, 2, 3, 4, 5, 6, 7, 8, 9, 10, 11, 12, 13]) #[0, 0, 2, 7, 15, 31, 31, 127, 255, 511, 31, 1055, 4095, 8191] _ rfl (by kernel_rfl) (by kernel_rfl) St.drawn (fun _ h => h) ?_
    iterate 2 refine Zf ?_
    refine Zbb F.elem35 ?_; refine Zav ?_; refine Zf ?_
    refine Zag 38 rfl (fun hc14 => ?_) (fun hc14 => ?_)
    ·replace hc14 := dT hc14
     iterate 2 refine Zf ?_
     refine Zaa rfl rfl rfl rfl F.elem35 (by rfl) (by omega) (by exact SlM.plain (by assumption) (by (simp; omega))) rfl ?_; refine Zaq rfl rfl rfl (by exact SlM.plain (by assumption) (by (simp; omega))) F.foff92_0 rfl ?_; refine Zay rfl rfl rfl (by assumption) (by exact Zbl (by omega)) F.lay3 rfl rfl rfl ?_; refine Zb F.foff92_0 ?_; refine Zi F.lay3 ?_; refine Zav ?_; refine Zl ?_; refine Ze ?_; refine Zc ?_; refine Y_pk [47, 5, 6, 4, 0] ?_
     refine Zau rfl (fun hc15 => ?_) (fun hc15 => ?_)
     ·replace hc15 := dT hc15
      simp only [List.get_eq_getElem] at hc15
      have k_d1 := k_l.drop (k + 1) (by omega)
      refine Za (l := [0, 1, 2]) rfl ?_; refine Zf ?_; refine Zcc rfl rfl rfl rfl rfl (by exact Zbf (by decide) (by omega)) rfl ?_; refine Zd ?_; refine Ze ?_; refine Zc ?_; refine Y_pk [6, 5, 4, 0] ?_; refine Zj ?_; refine Za (l := [0, 1, 2, 3, 4, 5]) rfl ?_
      iterate 3 refine Zf ?_
      refine Zdw rfl rfl rfl (.some (k := k + 1) rfl (by rfl)) .none .none F.elem35 (by simp only [Option.getD_none]; omega) (by simp only [Option.getD_some, Option.getD_none]; omega) (by simp only [Option.getD_some, Option.getD_none]; omega) (by simp) (pieceV_drop (l := l_l) (k := k + 1)) rfl ?_
      refine Zfk (m := 1000000) rfl rfl rfl rfl rfl F.elem35 F.zero92 (by rfl) rfl (by assumption) (by repeat first | exact Rem.here _ | exact Rem.two | apply Rem.skip | apply Rem.over) ((by exact k_d1.h1)) MarkV.flat (by (simp; omega)) (by decide) rfl ?_; intro v18 hs17 ho16; obtain ⟨adv18, cpv18, rfl⟩ := ho16.val
      refine Zd ?_; refine Ze ?_; refine Zc ?_; refine Y_pk [4] ?_; refine Zak ?_
      refine Zaj (.inr rfl) (.tmp rfl .nil) (fun w hw => ?_)
      have e7 : (((l_l.take k).map MarkV.segs ++ [MarkV.segs ⟨Zdf, Zfy, ⟨Zdc, Zch, Zdj, Zdi⟩⟩]) ++ (l_l.drop (k + 1)).map MarkV.segs) = (putM l_l ⟨Zdf, Zfy, ⟨Zdc, Zch, Zdj, Zdi⟩⟩).map MarkV.segs := by
       unfold putM
       rw [show isM l_l (MarkV.client ⟨Zdf, Zfy, ⟨Zdc, Zch, Zdj, Zdi⟩⟩) = true from (by show isM l_l Zdf = true; rw [isM_at (by rw [hat]; omega)]; simp only [hat]; exact decide_eq_true (by assumption)), show atM l_l (MarkV.client ⟨Zdf, Zfy, ⟨Zdc, Zch, Zdj, Zdi⟩⟩) = k from hat]
       simp
      have ho7 := ho16
      replace ho7 := ho7.as9 e7
      have hw9 : St _ (hs17 ++ H) w := hw.c
      obtain ⟨M9, s9, g1, g2, g3, g4, g5⟩ := ho7.freezeK hw9
      exact ⟨_, M9, rfl, g1, g2, s9, g3, g4, g5⟩
     ·replace hc15 := dF hc15
      simp only [List.get_eq_getElem] at hc15
      refine Zax ?_; refine Zc ?_; refine Y_pk [5, 6, 4, 0] ?_; refine Zj ?_; refine Za (l := [0, 1, 2, 3, 4, 5]) rfl ?_
      iterate 3 refine Zf ?_
      refine Zdw rfl rfl rfl (.some (k := k) rfl (by rfl)) .none .none F.elem35 (by simp only [Option.getD_none]; omega) (by simp only [Option.getD_some, Option.getD_none]; omega) (by simp only [Option.getD_some, Option.getD_none]; omega) (by simp) (pieceV_drop (l := l_l) (k := k)) rfl ?_
      refine Zfk (m := 1000000) rfl rfl rfl rfl rfl F.elem35 F.zero92 (by rfl) rfl (by assumption) (by repeat first | exact Rem.here _ | exact Rem.two | apply Rem.skip | apply Rem.over) ((by exact k_d0.h1)) MarkV.flat (by (simp; omega)) (by decide) rfl ?_; intro v21 hs20 ho19; obtain ⟨adv21, cpv21, rfl⟩ := ho19.val
      refine Zd ?_; refine Ze ?_; refine Zc ?_; refine Y_pk [4] ?_; refine Zak ?_
      refine Zaj (.inr rfl) (.tmp rfl .nil) (fun w hw => ?_)
      have e7 : (((l_l.take k).map MarkV.segs ++ [MarkV.segs ⟨Zdf, Zfy, ⟨Zdc, Zch, Zdj, Zdi⟩⟩]) ++ (l_l.drop (k)).map MarkV.segs) = (putM l_l ⟨Zdf, Zfy, ⟨Zdc, Zch, Zdj, Zdi⟩⟩).map MarkV.segs := by
       unfold putM
       rw [show isM l_l (MarkV.client ⟨Zdf, Zfy, ⟨Zdc, Zch, Zdj, Zdi⟩⟩) = false from (if h8 : k < l_l.length then (by show isM l_l Zdf = false; rw [isM_at (by rw [hat]; exact h8)]; simp only [hat]; exact decide_eq_false (by assumption)) else (by show isM l_l Zdf = false; unfold isM; rw [List.getElem?_eq_none (by omega)])), show atM l_l (MarkV.client ⟨Zdf, Zfy, ⟨Zdc, Zch, Zdj, Zdi⟩⟩) = k from hat]
       simp
      have ho7 := ho19
      replace ho7 := ho7.as9 e7
      have hw9 : St _ (hs20 ++ H) w := hw.c
      obtain ⟨M9, s9, g1, g2, g3, g4, g5⟩ := ho7.freezeK hw9
      exact ⟨_, M9, rfl, g1, g2, s9, g3, g4, g5⟩
    ·replace hc14 := dF hc14
     (exfalso; omega)
  ·replace hc2 := dF hc2
   iterate 8 refine Zz ?_
   refine Zl ?_; refine Ze ?_; refine Zc ?_; refine Zeu rfl ?_; refine Zcm ?_
   iterate 2 refine Zcd ?_
   refine Zdl ?_; refine Zc ?_; refine Y_pk [6, 5, 4, 3, 0] ?_; refine Zj ?_
   have hat : atM l_l Zdf = k := firstP_at hk9 hI (fun h9 => by rw [clt_at h9]; exact decide_eq_true (by omega))
   have k_d0 := k_l.drop k hk9
   refine Za (l := [0, 1, 2, 3, 4]) rfl ?_; refine Zf ?_; refine Zi F.lay92 ?_
   refine Zbt rfl rfl F.elem35 F.zero92 rfl rfl (.cons rfl (by constructor) .nil) rfl rfl (by simp only [List.map_cons, List.map_nil] <;> rfl) rfl ?_; intro b25 hob26
   refine Zdn (m := 1000000) rfl rfl rfl rfl rfl F.elem35 F.zero92 (by rfl) rfl (by assumption) (by repeat first | exact Rem.here _ | exact Rem.two | apply Rem.skip | apply Rem.over) (Src.own hob26.lens (by (refine Zdy ?_; (repeat (first | exact Zbp | refine Zcb ?_ | (refine Zam ?_ ?_; rfl))); done)) rfl (by repeat first | exact List.Mem.head _ | refine List.Mem.tail _ ?_ | refine List.mem_append_right _ ?_)) (by (simp; omega)) (by decide) rfl ?_; intro v29 hs28 ho27; obtain ⟨adv29, cpv29, rfl⟩ := ho27.val
   refine Zd ?_; refine Ze ?_; refine Zc ?_; refine Y_pk [5, 6, 4, 3, 0] ?_
   iterate 2 refine Zj ?_
   refine Zar (l := [0, 1, 2, 3, 4, 5, 6, 7, 8, 9, 10, 11, 12, 13]) #[0, 0, 2, 7, 15, 31, 31, 127, 255, 511, 31, 1055, 4095, 8191] _ rfl (by kernel_rfl) (by kernel_rfl) St.drawn (fun _ h => h) ?_
   iterate 2 refine Zf ?_
   refine Zbb F.elem35 ?_; refine Zav ?_; refine Zf ?_
   refine Zag 38 rfl (fun hc30 => ?_) (fun hc30 => ?_)
   ·replace hc30 := dT hc30
    (exfalso; omega)
   ·replace hc30 := dF hc30
    iterate 8 refine Zz ?_
    refine Zl ?_; refine Ze ?_; refine Zc ?_; refine Y_pk [47, 5, 6, 4, 0] ?_; refine Zeu rfl ?_; refine Zax ?_; refine Zc ?_; refine Y_pk [5, 6, 4, 0] ?_; refine Zj ?_; refine Za (l := [0, 1, 2, 3, 4, 5]) rfl ?_
    iterate 3 refine Zf ?_
    refine Zdw rfl rfl rfl (.some (k := k) rfl (by rfl)) .none .none F.elem35 (by simp only [Option.getD_none]; omega) (by simp only [Option.getD_some, Option.getD_none]; omega) (by simp only [Option.getD_some, Option.getD_none]; omega) (by simp) (pieceV_drop (l := l_l) (k := k)) rfl ?_
    refine Zfk (m := 1000000) rfl rfl rfl rfl rfl F.elem35 F.zero92 (by rfl) rfl (by assumption) (by repeat first | exact Rem.here _ | exact Rem.two | apply Rem.skip | apply Rem.over) ((by exact k_d0.h1)) MarkV.flat (by (simp; omega)) (by decide) rfl ?_; intro v40 hs39 ho38; obtain ⟨adv40, cpv40, rfl⟩ := ho38.val
    refine Zd ?_; refine Ze ?_; refine Zc ?_; refine Y_pk [4] ?_; refine Zak ?_
    refine Zaj (.inr rfl) (.tmp rfl .nil) (fun w hw => ?_)
    have e7 : (((l_l.take k).map MarkV.segs ++ [MarkV.segs ⟨Zdf, Zfy, ⟨Zdc, Zch, Zdj, Zdi⟩⟩]) ++ (l_l.drop (k)).map MarkV.segs) = (putM l_l ⟨Zdf, Zfy, ⟨Zdc, Zch, Zdj, Zdi⟩⟩).map MarkV.segs := by
     unfold putM
     rw [show isM l_l (MarkV.client ⟨Zdf, Zfy, ⟨Zdc, Zch, Zdj, Zdi⟩⟩) = false from (if h8 : k < l_l.length then (by show isM l_l Zdf = false; rw [isM_at (by rw [hat]; exact h8)]; simp only [hat]; exact decide_eq_false (by omega)) else (by show isM l_l Zdf = false; unfold isM; rw [List.getElem?_eq_none (by omega)])), show atM l_l (MarkV.client ⟨Zdf, Zfy, ⟨Zdc, Zch, Zdj, Zdi⟩⟩) = k from hat]
     simp
    have ho7 := ho38
    replace ho7 := ho7.as9 e7
    have hw9 : St _ (hs39 ++ H) w := hw.c
    obtain ⟨M9, s9, g1, g2, g3, g4, g5⟩ := ho7.freezeK hw9
    exact ⟨_, M9, rfl, g1, g2, s9, g3, g4, g5⟩
theorem of_ok (M : Mem) (l : (Sl MarkV)) (c : Int) (hl0 : SlK M MarkV.segs 6 l) : Fs Tryz.prog 75 [Sl.val l, .int .i64 c] M (fun v => v =  (ofXv (ofX l.l c))) := by
  obtain ⟨l_a, l_c, l_l⟩ := l
  have k_l : SlK M MarkV.segs 6 ⟨l_a, l_c, l_l⟩ := hl0
  have s_l : SlM M l_a (l_l.map MarkV.segs) 6 := k_l.h1
  have n_l : (l_l.map MarkV.segs).length = l_l.length := List.length_map ..
  have m_l : l_l.length ≤ 9223372036854775807 := k_l.h2
  have c_l : l_l.length ≤ l_c := k_l.h3
  refine Zci Tryz.func75 rfl Tryz.ntmps75 rfl ?_; intro H
  refine Zj ?_; refine Za (l := [0, 1]) rfl ?_
  refine Zby F.zero92 ?_; intro b1
  refine Zd ?_; refine Ze ?_; refine Zc ?_
  iterate 2 refine Zj ?_
  refine Za (l := [0]) rfl ?_; refine Zd ?_; refine Ze ?_; refine Zc ?_; refine Zbe ?_; refine Y_pk [6, 5, 4, 0, 1] ?_; refine Zed (.succ .zero) (fun (k : Nat) z => z = [(6, .int .i64 (k : Int))] ∧ k ≤ l_l.length ∧ (∀ j (h2 : j < l_l.length), j < k → ¬ l_l[j].client = c)) (fun k => l_l.length - k) (0) (⟨rfl, by omega, by (intro j h2 hj; omega)⟩) ?_
  rintro k _ ⟨rfl, hk, hI⟩
  iterate 2 refine Zj ?_
  refine Za (l := [0, 1, 2, 3]) rfl ?_
  iterate 2 refine Zf ?_
  refine Zbb F.elem35 ?_; refine Zav ?_; refine Ze ?_; refine Zc ?_
  refine Zau rfl (fun hc2 => ?_) (fun hc2 => ?_)
  ·replace hc2 := dT hc2
   refine Zax ?_; refine Zc ?_; refine Zj ?_; refine Zbe ?_; refine Zj ?_; refine Za (l := [0, 1, 2, 3, 4, 5, 6]) rfl ?_
   iterate 2 refine Zf ?_
   refine Zaa rfl rfl rfl rfl F.elem35 (by rfl) (by omega) (by exact SlM.plain (by assumption) (by (simp; omega))) rfl ?_; refine Zaq rfl rfl rfl (by exact SlM.plain (by assumption) (by (simp; omega))) F.foff92_0 rfl ?_; refine Zay rfl rfl rfl (by assumption) (by exact Zbl (by omega)) F.lay3 rfl rfl rfl ?_; refine Zf ?_; refine Zav ?_; refine Ze ?_; refine Zc ?_
   refine Zau rfl (fun hc3 => ?_) (fun hc3 => ?_)
   ·replace hc3 := dT hc3
    simp only [List.get_eq_getElem] at hc3
    refine Zj ?_; refine Za (l := [0, 1, 2, 3, 4, 5]) rfl ?_
    iterate 2 refine Zf ?_
    refine Zaa rfl rfl rfl rfl F.elem35 (by rfl) (by omega) (by exact SlM.plain (by assumption) (by (simp; omega))) rfl ?_; refine Zay rfl rfl rfl (by assumption) (by exact Zbl (by omega)) F.lay92 rfl rfl rfl ?_; refine Zas F.lay92 ?_; refine Zd ?_; refine Ze ?_; refine Zc ?_; refine Zak ?_; refine Zbj ?_
    iterate 2 refine Zba ?_
    refine Zbj ?_; refine Zba ?_
    refine Zaj (.inr rfl) (.cell rfl (by repeat first | exact List.Mem.head _ | refine List.Mem.tail _ ?_ | refine List.mem_append_right _ ?_) F.lay92 rfl rfl (.tmp rfl .nil)) (fun w hw => ?_)
    refine ⟨_, rfl, (hw.c), ?_⟩
    clear hw
    rw [show ofX l_l c = (l_l[k], true) by unfold ofX; rw [ofM_first (by omega) (fun j h2 hj => hI j h2 hj) (by assumption)]]
    rfl
   ·replace hc3 := dF hc3
    simp only [List.get_eq_getElem] at hc3
    refine Zax ?_; refine Zde ?_; refine Zc ?_; refine Za (l := [0, 1, 2]) rfl ?_; refine Zf ?_; refine Zcc rfl rfl rfl rfl rfl (by exact Zbf (by decide) (by omega)) rfl ?_; refine Zd ?_; refine Ze ?_; refine Zda (a' := [(6, _)]) (k + 1) (.cons (k := 6) rfl (.cons (k := 5) rfl (.cons (k := 4) rfl (.cons (k := 0) rfl (.cons (k := 1) rfl (.nil)))))) (fun w hw => by first | exact hw | exact hw.c) ?_ ?_
    ·refine ⟨rfl, by omega, ?_⟩
     (intro j h2 hj; rcases Nat.lt_or_ge j k with h9 | h9; exact hI j h2 h9; obtain rfl : j = k := (by omega); assumption)
    ·omega
  ·replace hc2 := dF hc2
   refine Zcm ?_
   iterate 2 refine Zcd ?_
   refine Zdl ?_; refine Zc ?_; refine Y_pk [5, 4] ?_; refine Zj ?_; refine Za (l := [0, 1, 2]) rfl ?_; refine Zbv rfl rfl F.bld92 (.nil) rfl rfl ?_; refine Zas F.lay92 ?_; refine Zd ?_; refine Ze ?_; refine Zc ?_; refine Y_pk [5, 4] ?_; refine Zak ?_
   refine Zaj (.inr rfl) (.cell rfl (by repeat first | exact List.Mem.head _ | refine List.Mem.tail _ ?_ | refine List.mem_append_right _ ?_) F.lay92 rfl rfl (.tmp rfl .nil)) (fun w hw => ?_)
   refine ⟨_, rfl, (hw.c), ?_⟩
   clear hw
   rw [show ofX l_l c = (MarkV.zero, false) by unfold ofX; rw [ofM_none (fun j h2 => hI j h2 (by omega))]]
   rfl
end Go.Proofs.YtpkeilhilpogiaaGreat
namespace Go.Esp
section
variable {P : Program} {n : Sh} {Q : Exit → Act → World → Prop} {M : Mem} {H H0 : Hp} {e : Env} {x : Exit} {c : Code}
theorem OSl.frz {α : Type} {T sz k cp : Nat} {f : α → Segs} {l : List α} {ad : Option Addr} {hs : Hp} (ho : OSl T sz (.slice ad k cp) hs (l.map f)) {w : World} (hw : St M (hs ++ H) w) : ∃ M', M.le M' ∧ St M' H w ∧ SlK M' f sz ⟨ad, cp, l⟩ := by
  obtain ⟨M', ⟨a', c', l'⟩, h1, h2, h3, h4, h5⟩ := ho.freezeK hw
  simp only [Sl.val, Value.slice.injEq] at h3
  obtain ⟨rfl, _, rfl⟩ := h3
  simp only at h4
  subst h4
  exact ⟨M', h1, h2, h5⟩
theorem Zgw {α : Type} {T sz k cp : Nat} {f : α → Segs} {l : List α} {ad : Option Addr} {hs : Hp} (ho : OSl T sz (.slice ad k cp) hs (l.map f)) (hR : Rem hs H H0) (h : ∀ M', M.le M' → SlK M' f sz ⟨ad, cp, l⟩ → C P n c Q (St M' H0) e) : C P n c Q (St M H) e := by
  intro a w ha hw
  obtain ⟨M', h1, h2, h3⟩ := ho.frz (hw.perm hR.perm)
  exact h M' h1 h3 a w ha h2
end
end Go.Esp
namespace Go.Proofs.YtpkeilhilpogiaaGreat
open Go.Esp
theorem F.bld37 : Bld Tryz.prog 37 [[.one (.int .u64 0)], [.one (.bool false)], [.one (.string ⟨#[]⟩)], [.one (.slice none 0 0)]] := ⟨by kernel_rfl, by kernel_rfl⟩
theorem F.foff37_0 : foff Tryz.prog 37 0 = some 0 := by kernel_rfl
theorem F.foff92_1 : foff Tryz.prog 92 1 = some 1 := by kernel_rfl
theorem F.guard92 : Tryz.prog.eqGuardType Tryz.prog.depth 92 = false := by kernel_rfl
theorem F.kinds92 : kindsOf Tryz.prog 20 92 = some [.i .i64, .i .u64, .i .i64, .i .u64, .b, .s] := by kernel_rfl
theorem F.lay22 : lay Tryz.prog 22 = some (false, 1) := by kernel_rfl
theorem F.lay37 : lay Tryz.prog 37 = some (true, 4) := by kernel_rfl
theorem F.ok47 : okFn Tryz.prog 47 = true := by kernel_rfl
theorem F.ok93 : okFn Tryz.prog 93 = true := by kernel_rfl
theorem F.zero37 : zeroOf Tryz.prog 37 = some (aggV [.one (.int .u64 0), .one (.bool false), .one (.string ⟨#[]⟩), .one (.slice none 0 0)]) := by kernel_rfl
theorem Merge_ok (M : Mem) (a : CellV) (b : CellV) (ha0 : CellV.ok M a) (hb1 : CellV.ok M b) : Esp.Fn Tryz.prog 60 [a.enc, b.enc] M (fun M' v => ∃ c : CellV, v = .tuple #[c.enc, .int .i64 (mergeR a.pl b.pl).2] ∧ c.pl = (mergeR a.pl b.pl).1 ∧ CellV.ok M' c) := by
  obtain ⟨Zcw, Zfw, Zfv, ⟨Zds, Zdr, Zal⟩⟩ := a
  obtain ⟨Zdk, Zgl, Zgk, ⟨Zeb, Zea, Zan⟩⟩ := b
  have Zef : SlK M MarkV.segs 6 ⟨Zds, Zdr, Zal⟩ := ha0.h0
  have s_a_marks : SlM M Zds (Zal.map MarkV.segs) 6 := Zef.h1
  have n_a_marks : (Zal.map MarkV.segs).length = Zal.length := List.length_map ..
  have m_a_marks : Zal.length ≤ 9223372036854775807 := Zef.h2
  have c_a_marks : Zal.length ≤ Zdr := Zef.h3
  have Zfc : SlK M MarkV.segs 6 ⟨Zeb, Zea, Zan⟩ := hb1.h0
  have Zfs : SlM M Zeb (Zan.map MarkV.segs) 6 := Zfc.h1
  have n_b_marks : (Zan.map MarkV.segs).length = Zan.length := List.length_map ..
  have m_b_marks : Zan.length ≤ 9223372036854775807 := Zfc.h2
  have c_b_marks : Zan.length ≤ Zea := Zfc.h3
  refine Zek Tryz.func60 rfl Tryz.ntmps60 rfl ?_; intro H
  refine Zj ?_; refine Za (l := [0, 1, 2, 3]) rfl ?_
  refine Zcz ?_; intro b1
  refine Zcz ?_; intro b2
  refine Zby F.zero37 ?_; intro b3
  refine Zd ?_; refine Ze ?_; refine Zc ?_; refine Y_pk [5, 4, 3, 2] ?_
  iterate 2 refine Zj ?_
  refine Za (l := [0, 1, 2, 3, 4, 5, 6, 7]) rfl ?_; refine Zi F.lay37 ?_; refine X_fs rfl rfl F.ok47 rfl (CelIs_ok _ ⟨_, _, _, ⟨_, _, _⟩⟩ (by assumption)) rfl ?_
  rintro _ rfl
  refine Zel ?_; refine Zf ?_
  refine Zag 14 rfl (fun hc4 => ?_) (fun hc4 => ?_)
  ·replace hc4 := nT hc4
   iterate 3 refine Zz ?_
   refine Zl ?_; refine Ze ?_; refine Zc ?_; refine Y_pk [18, 5, 4, 3, 2] ?_; refine Zcy rfl ?_; refine Zj ?_; refine Za (l := [0, 1, 2]) rfl ?_; refine Zbv rfl rfl F.bld37 (.nil) rfl rfl ?_; refine Zas F.lay37 ?_; refine Zd ?_; refine Ze ?_; refine Zc ?_; refine Y_pk [5, 4, 3, 2] ?_; refine Zak ?_; refine Zba ?_
   refine Zaj (.inr rfl) (.cell rfl (by repeat first | exact List.Mem.head _ | refine List.Mem.tail _ ?_ | refine List.mem_append_right _ ?_) F.lay37 rfl rfl (.tmp rfl .nil)) (fun w hw => ?_)
   refine ⟨_, M, rfl, Mem.le.refl M, hw.c, ?_⟩
   rw [show mergeR (CellV.pl ⟨Zcw, Zfw, Zfv, ⟨Zds, Zdr, Zal⟩⟩) (CellV.pl ⟨Zdk, Zgl, Zgk, ⟨Zeb, Zea, Zan⟩⟩) = (Cel.zero, 1) from if_neg (by rintro ⟨g1, g2⟩; contradiction)]
   exact ⟨CellV.zero, rfl, rfl, CellV.zero_ok M⟩
  ·replace hc4 := nF hc4
   refine Zi F.lay37 ?_; refine X_fs rfl rfl F.ok47 rfl (CelIs_ok _ ⟨_, _, _, ⟨_, _, _⟩⟩ (by assumption)) rfl ?_
   rintro _ rfl
   refine Zel ?_; refine Zl ?_; refine Ze ?_; refine Zc ?_; refine Y_pk [18, 5, 4, 3, 2] ?_
   refine Zau rfl (fun hc5 => ?_) (fun hc5 => ?_)
   ·replace hc5 := nT hc5
    refine Zj ?_; refine Za (l := [0, 1, 2]) rfl ?_; refine Zbv rfl rfl F.bld37 (.nil) rfl rfl ?_; refine Zas F.lay37 ?_; refine Zd ?_; refine Ze ?_; refine Zc ?_; refine Y_pk [5, 4, 3, 2] ?_; refine Zak ?_; refine Zba ?_
    refine Zaj (.inr rfl) (.cell rfl (by repeat first | exact List.Mem.head _ | refine List.Mem.tail _ ?_ | refine List.mem_append_right _ ?_) F.lay37 rfl rfl (.tmp rfl .nil)) (fun w hw => ?_)
    refine ⟨_, M, rfl, Mem.le.refl M, hw.c, ?_⟩
    rw [show mergeR (CellV.pl ⟨Zcw, Zfw, Zfv, ⟨Zds, Zdr, Zal⟩⟩) (CellV.pl ⟨Zdk, Zgl, Zgk, ⟨Zeb, Zea, Zan⟩⟩) = (Cel.zero, 1) from if_neg (by rintro ⟨g1, g2⟩; contradiction)]
    exact ⟨CellV.zero, rfl, rfl, CellV.zero_ok M⟩
   ·replace hc5 := nF hc5
    refine Zax ?_; refine Zc ?_; refine Y_pk [5, 4, 3, 2] ?_; refine Zj ?_
    have ha : IsCel (CellV.pl ⟨Zcw, Zfw, Zfv, ⟨Zds, Zdr, Zal⟩⟩) := by assumption
    have hb : IsCel (CellV.pl ⟨Zdk, Zgl, Zgk, ⟨Zeb, Zea, Zan⟩⟩) := by assumption
    have ham : MarksOk Zal := ha.2
    have hbm : MarksOk Zan := hb.2
    have hal := marks_len ham
    have hbl := marks_len hbm
    refine Za (l := [0, 1, 2]) rfl ?_; refine Zi F.lay37 ?_
    refine Zby F.zero37 ?_; intro b6
    refine Zas F.lay37 ?_; refine Ze ?_; refine Zc ?_; refine Y_pk [6, 5, 4, 3, 2] ?_
    iterate 2 refine Zj ?_
    refine Za (l := [0, 1, 2, 3, 4]) rfl ?_; refine Zb F.foff37_0 ?_; refine Zi F.lay22 ?_; refine Zb F.foff37_0 ?_; refine Zi F.lay22 ?_; refine Zav ?_; refine Ze ?_; refine Zc ?_; refine Y_pk [25, 6, 5, 4, 3, 2] ?_
    refine Zau rfl (fun hc7 => ?_) (fun hc7 => ?_)
    ·replace hc7 := dT hc7
     refine Za (l := [0, 1]) rfl ?_; refine Zi F.lay37 ?_; refine Zas F.lay37 ?_; refine Ze ?_; refine Zc ?_; refine Y_pk [6, 5, 4, 3, 2] ?_; refine Zj ?_; refine Za (l := [0, 1, 2, 3, 4]) rfl ?_; refine Zb F.foff37_3 ?_; refine Zi F.lay35 ?_; refine Zgy rfl rfl F.ok99 rfl (CloneK_ok _ _ _ _ Zef (by omega)) (by repeat first | exact Rem.here _ | exact Rem.two | apply Rem.skip | apply Rem.over) (fun _ _ _ hm hw => (hw.lower (by exact hm)).c) (Zbq rfl) ?_
     rintro v0 M1 hs0 hm0 ⟨hM1, ho0⟩; subst M1
     obtain ⟨ad0, cp0, rfl⟩ := ho0.valL
     refine Zb F.foff37_3 ?_; refine Zas F.lay35 ?_; refine Ze ?_; refine Zc ?_; refine Y_pk [6, 5, 4, 3, 2] ?_
     iterate 2 refine Zj ?_
     refine Zgw ho0 (by repeat first | exact Rem.here _ | exact Rem.two | apply Rem.skip | apply Rem.over) (fun M0 hm0 k_s0 => ?_)
     have hs0l : Zal = (Zan.take 0).foldl (addM Zal) Zal := rfl
     obtain ⟨s0, hs0⟩ : ∃ s0 : Sl MarkV, s0 = ⟨ad0, cp0, Zal⟩ := ⟨_, rfl⟩
     have e0 : Value.slice ad0 Zal.length cp0 = s0.val := by rw [hs0]; rfl
     rw [e0]
     rw [← hs0] at k_s0
     replace hs0l : s0.l = (Zan.take 0).foldl (addM Zal) Zal := by rw [hs0]; exact hs0l
     have s_b0 := Zfs.mono hm0
     refine Za (l := [0, 1, 2, 3]) rfl ?_; refine Zb F.foff37_3 ?_; refine Zi F.lay35 ?_; refine Zbb F.elem35 ?_; refine Zf ?_; refine Ze ?_; refine Zc ?_; refine Y_pk [34, 33, 32, 6, 5, 4, 2] ?_; refine Zbe ?_; refine Y_pk [34, 33, 32, 6, 5, 4, 2] ?_; refine Zeo (Hin := [(b6, rowO [.one (.int .u64 Zdk), .one (.bool Zgl), .one (.string Zgk), .one (Sl.val s0)] 37)]) (.succ .zero) (by repeat first | exact Rem.here _ | exact Rem.two | apply Rem.skip | apply Rem.over) (fun (k : Nat) M1 h1 z => ∃ s : Sl MarkV, z = [(34, .int .i64 (k : Int))] ∧ k ≤ Zan.length ∧ s.l = (Zan.take k).foldl (addM Zal) Zal ∧ SlK M1 MarkV.segs 6 s ∧ h1 = [(b6, rowO [.one (.int .u64 Zdk), .one (.bool Zgl), .one (.string Zgk), .one (Sl.val s)] 37)]) (fun k => Zan.length - k) (0) (⟨s0, rfl, by omega, hs0l, k_s0, rfl⟩) ?_
     rintro k M1 h1 z hm1 ⟨⟨s_a, s_c, s_l⟩, rfl, hk, hsl, k_s, rfl⟩
     simp only at hsl
     have hmm := hm0.trans hm1
     have s_b1 := Zfs.mono hmm
     have s_a1 := s_a_marks.mono hmm
     have hsok : MarksOk s_l := by rw [hsl]; exact foldM_ok ham (fun m hm => hbm.1 m (List.mem_of_mem_take hm))
     refine Zj ?_; refine Za (l := [0]) rfl ?_; refine Zav ?_; refine Ze ?_; refine Zc ?_; refine Zj ?_
     refine Zau rfl (fun hc8 => ?_) (fun hc8 => ?_)
     ·replace hc8 := dT hc8
      refine Zax ?_; refine Zc ?_; refine Zj ?_; refine Zbe ?_; refine Zj ?_; refine Za (l := [0, 1, 2, 3]) rfl ?_; refine Zaa rfl rfl rfl rfl F.elem35 (by rfl) (by omega) (by exact SlM.plain (by assumption) (by (simp; omega))) rfl ?_; refine Zay rfl rfl rfl (by assumption) (by exact Zbl (by omega)) F.lay92 rfl rfl rfl ?_
      refine Zby F.zero92 ?_; intro b9
      refine Zas F.lay92 ?_; refine Ze ?_; refine Zc ?_; refine Zj ?_
      have hmk : MarkOk Zan[k] := hbm.1 _ (List.getElem_mem (by omega))
      have hmc := hmk.1
      refine Za (l := [0, 1, 2, 3, 4, 5, 6, 7, 8, 9]) rfl ?_; refine Zb F.foff37_3 ?_; refine Zi F.lay35 ?_; refine Zb F.foff92_0 ?_; refine Zi F.lay3 ?_; refine X_fs rfl rfl F.ok92 rfl (find_ok _ ⟨Zds, Zdr, Zal⟩ Zan[k].client (Zef.mono hmm) ham hmc) rfl ?_
      rintro _ rfl
      refine Zf ?_
      iterate 2 refine Zcf ?_
      iterate 2 refine Zd ?_
      refine Ze ?_; refine Zc ?_; refine Zj ?_; refine Zar (l := [0, 1, 2, 3, 4, 5, 6, 7, 8, 9, 10, 11, 12, 13, 14, 15, 16, 17, 18, 19, 20, 21]) #[0, 1, 3, 7, 15, 7, 63, 127, 7, 511, 1023, 2047, 4095, 2047, 16383, 32767, 65535, 2047, 133119, 524287, 1048575, 2097151] _ rfl (by kernel_rfl) (by kernel_rfl) St.drawn (fun _ h => h) ?_; refine Zf ?_; refine Zel ?_; refine Zf ?_
      refine Zag 48 rfl (fun hc10 => ?_) (fun hc10 => ?_)
      ·skip
       simp only [AnswerV.eta, MarkV.eta, CellV.eta, HeldV.eta, WaitV.eta, ServerV.eta, PeerV.eta, OpV.eta, ParcelV.eta, PostV.eta, WorkerV.eta] at hc10
       iterate 18 refine Zz ?_
       refine Zl ?_; refine Ze ?_; refine Zc ?_; refine Zcy rfl ?_; refine Za (l := [0, 1, 2, 3, 4, 5]) rfl ?_; refine Zb F.foff37_3 ?_; refine Zi F.lay35 ?_; refine Zi F.lay92 ?_; refine X_fn rfl rfl F.ok93 rfl (put_ok _ ⟨s_a, s_c, s_l⟩ Zan[k] k_s hsok hmk) rfl ?_
       rintro _ M2 hm2 ⟨⟨q_a, q_c, q_l⟩, rfl, hql, k_q⟩
       simp only at hql
       refine Zb F.foff37_3 ?_; refine Zas F.lay35 ?_; refine Ze ?_; refine Zde ?_; refine Zc ?_; refine Za (l := [0, 1]) rfl ?_; refine Zcc rfl rfl rfl rfl rfl (by exact Zbf (by decide) (by omega)) rfl ?_; refine Zf ?_; refine Ze ?_; refine Zcr (a' := [(34, _)]) (k + 1) ([(b6, rowO [.one (.int .u64 Zdk), .one (.bool Zgl), .one (.string Zgk), .one (Value.slice q_a q_l.length q_c)] 37)]) (.cons (k := 34) rfl (.cons (k := 33) rfl (.cons (k := 32) rfl (.cons (k := 6) rfl (.cons (k := 5) rfl (.cons (k := 4) rfl (.cons (k := 2) rfl (.nil)))))))) (hm1.trans hm2) (fun w hw => by first | exact hw | exact hw.c) ?_ ?_
       ·refine ⟨⟨q_a, q_c, q_l⟩, rfl, by omega, ?_, k_q, rfl⟩
        show _ = _
        rw [Zet (by omega), ← hsl]
        unfold addM
        rw [hql]; rw [ofM_is ham, dif_neg (by rw [(show isM Zal Zan[k].client = false from by have h9 := ‹(!isM Zal Zan[k].client) = true›; simpa using h9)]; decide)]
       ·omega
      ·skip
       simp only [AnswerV.eta, MarkV.eta, CellV.eta, HeldV.eta, WaitV.eta, ServerV.eta, PeerV.eta, OpV.eta, ParcelV.eta, PostV.eta, WorkerV.eta] at hc10
       refine Zb F.foff37_3 ?_; refine Zi F.lay35 ?_; refine Zf ?_
       have hif : isM Zal Zan[k].client = true := (show isM Zal Zan[k].client = true from by have h9 := ‹(!isM Zal Zan[k].client) = false›; simpa using h9)
       have hlt := Zgt hif
       refine Zaa rfl rfl rfl rfl F.elem35 (by rfl) (by omega) (by exact SlM.plain (by assumption) (by (simp; omega))) rfl ?_; refine Zay rfl rfl rfl (by assumption) (by exact Zbl (by omega)) F.lay92 rfl rfl rfl ?_; refine Zi F.lay92 ?_
       refine Zfx (m := 20) rfl rfl rfl rfl rfl (by constructor) (by constructor) F.lay92 F.kinds92 rfl F.guard92 (by exact FitMarkV _) (by exact FitMarkV _) rfl rfl rfl ?_; intro c11 he12
       replace he12 : c11 = true ↔ ¬ (Segs.cells _ = Segs.cells _) := he12
       obtain rfl := neD he12 (MarkV.inj (x := ⟨_, _, ⟨_, _, _, _⟩⟩) (y := ⟨_, _, ⟨_, _, _, _⟩⟩)); clear he12
       refine Zf ?_
       refine Zag 56 rfl (fun hc13 => ?_) (fun hc13 => ?_)
       ·replace hc13 := nT hc13
        simp only [AnswerV.eta, MarkV.eta, CellV.eta, HeldV.eta, WaitV.eta, ServerV.eta, PeerV.eta, OpV.eta, ParcelV.eta, PostV.eta, WorkerV.eta] at hc13
        simp only [List.get_eq_getElem] at hc13
        refine Zb F.foff37_3 ?_; refine Zi F.lay35 ?_; refine Zf ?_; refine Zaa rfl rfl rfl rfl F.elem35 (by rfl) (by omega) (by exact SlM.plain (by assumption) (by (simp; omega))) rfl ?_; refine Zaq rfl rfl rfl (by exact SlM.plain (by assumption) (by (simp; omega))) F.foff92_1 rfl ?_; refine Zay rfl rfl rfl (by assumption) (by exact Zbl (by omega)) F.lay22 rfl rfl rfl ?_; refine Zb F.foff92_1 ?_; refine Zi F.lay22 ?_; refine Zav ?_
        iterate 2 refine Zl ?_
        refine Ze ?_; refine Zc ?_
        refine Zau rfl (fun hc14 => ?_) (fun hc14 => ?_)
        ·replace hc14 := dT hc14
         simp only [AnswerV.eta, MarkV.eta, CellV.eta, HeldV.eta, WaitV.eta, ServerV.eta, PeerV.eta, OpV.eta, ParcelV.eta, PostV.eta, WorkerV.eta] at hc14
         simp only [List.get_eq_getElem] at hc14
         refine Za (l := [0, 1, 2, 3, 4, 5]) rfl ?_; refine Zb F.foff37_3 ?_; refine Zi F.lay35 ?_; refine Zi F.lay92 ?_; refine X_fn rfl rfl F.ok93 rfl (put_ok _ ⟨s_a, s_c, s_l⟩ Zan[k] k_s hsok hmk) rfl ?_
         rintro _ M2 hm2 ⟨⟨q_a, q_c, q_l⟩, rfl, hql, k_q⟩
         simp only at hql
         refine Zb F.foff37_3 ?_; refine Zas F.lay35 ?_; refine Ze ?_; refine Zde ?_; refine Zc ?_; refine Za (l := [0, 1]) rfl ?_; refine Zcc rfl rfl rfl rfl rfl (by exact Zbf (by decide) (by omega)) rfl ?_; refine Zf ?_; refine Ze ?_; refine Zcr (a' := [(34, _)]) (k + 1) ([(b6, rowO [.one (.int .u64 Zdk), .one (.bool Zgl), .one (.string Zgk), .one (Value.slice q_a q_l.length q_c)] 37)]) (.cons (k := 34) rfl (.cons (k := 33) rfl (.cons (k := 32) rfl (.cons (k := 6) rfl (.cons (k := 5) rfl (.cons (k := 4) rfl (.cons (k := 2) rfl (.nil)))))))) (hm1.trans hm2) (fun w hw => by first | exact hw | exact hw.c) ?_ ?_
         ·refine ⟨⟨q_a, q_c, q_l⟩, rfl, by omega, ?_, k_q, rfl⟩
          show _ = _
          rw [Zet (by omega), ← hsl]
          unfold addM
          rw [hql]; rw [ofM_is ham, dif_pos (show isM Zal Zan[k].client = true from by have h9 := ‹(!isM Zal Zan[k].client) = false›; simpa using h9)]
          exact (if_pos (by assumption)).symm
         ·omega
        ·replace hc14 := dF hc14
         simp only [AnswerV.eta, MarkV.eta, CellV.eta, HeldV.eta, WaitV.eta, ServerV.eta, PeerV.eta, OpV.eta, ParcelV.eta, PostV.eta, WorkerV.eta] at hc14
         simp only [List.get_eq_getElem] at hc14
         refine Zax ?_; refine Zde ?_; refine Zc ?_; refine Za (l := [0, 1]) rfl ?_; refine Zcc rfl rfl rfl rfl rfl (by exact Zbf (by decide) (by omega)) rfl ?_; refine Zf ?_; refine Ze ?_; refine Zcr (a' := [(34, _)]) (k + 1) ([(b6, rowO [.one (.int .u64 Zdk), .one (.bool Zgl), .one (.string Zgk), .one (Sl.val (⟨s_a, s_c, s_l⟩ : Sl MarkV))] 37)]) (.cons (k := 34) rfl (.cons (k := 33) rfl (.cons (k := 32) rfl (.cons (k := 6) rfl (.cons (k := 5) rfl (.cons (k := 4) rfl (.cons (k := 2) rfl (.nil)))))))) hm1 (fun w hw => by first | exact hw | exact hw.c) ?_ ?_
         ·refine ⟨⟨s_a, s_c, s_l⟩, rfl, by omega, ?_, k_s, rfl⟩
          show _ = _
          rw [Zet (by omega), ← hsl]
          unfold addM
          rw [ofM_is ham, dif_pos (show isM Zal Zan[k].client = true from by have h9 := ‹(!isM Zal Zan[k].client) = false›; simpa using h9)]
          refine (if_neg (fun h9 => ?_)).symm
          exact absurd h9 (by assumption)
         ·omega
       ·replace hc13 := nF hc13
        simp only [AnswerV.eta, MarkV.eta, CellV.eta, HeldV.eta, WaitV.eta, ServerV.eta, PeerV.eta, OpV.eta, ParcelV.eta, PostV.eta, WorkerV.eta] at hc13
        simp only [List.get_eq_getElem] at hc13
        iterate 9 refine Zz ?_
        iterate 2 refine Zl ?_
        refine Ze ?_; refine Zc ?_; refine Zeu rfl ?_; refine Zax ?_; refine Zde ?_; refine Zc ?_; refine Za (l := [0, 1]) rfl ?_; refine Zcc rfl rfl rfl rfl rfl (by exact Zbf (by decide) (by omega)) rfl ?_; refine Zf ?_; refine Ze ?_; refine Zcr (a' := [(34, _)]) (k + 1) ([(b6, rowO [.one (.int .u64 Zdk), .one (.bool Zgl), .one (.string Zgk), .one (Sl.val (⟨s_a, s_c, s_l⟩ : Sl MarkV))] 37)]) (.cons (k := 34) rfl (.cons (k := 33) rfl (.cons (k := 32) rfl (.cons (k := 6) rfl (.cons (k := 5) rfl (.cons (k := 4) rfl (.cons (k := 2) rfl (.nil)))))))) hm1 (fun w hw => by first | exact hw | exact hw.c) ?_ ?_
        ·refine ⟨⟨s_a, s_c, s_l⟩, rfl, by omega, ?_, k_s, rfl⟩
         show _ = _
         rw [Zet (by omega), ← hsl]
         unfold addM
         rw [ofM_is ham, dif_pos (show isM Zal Zan[k].client = true from by have h9 := ‹(!isM Zal Zan[k].client) = false›; simpa using h9)]
         refine (if_neg (fun h9 => ?_)).symm
         (have e9 : Zal[atM Zal Zan[k].client] = Zan[k] := (by assumption); rw [e9] at h9; omega)
        ·omega
     ·replace hc8 := dF hc8
      refine Zcm ?_
      iterate 2 refine Zcd ?_
      refine Zdl ?_; refine Zc ?_; refine Y_pk [6, 5, 4] ?_; refine Zj ?_; refine Za (l := [0, 1, 2]) rfl ?_; refine Zi F.lay37 ?_; refine Zas F.lay37 ?_; refine Zd ?_; refine Ze ?_; refine Zc ?_; refine Y_pk [5, 4] ?_; refine Zak ?_
      refine Zaj (.inr rfl) (.cell rfl (by repeat first | exact List.Mem.head _ | refine List.Mem.tail _ ?_ | refine List.mem_append_right _ ?_) F.lay37 rfl rfl (.tmp rfl .nil)) (fun w hw => ?_)
      obtain rfl : k = Zan.length := by omega
      rw [List.take_length] at hsl
      refine ⟨_, M1, rfl, hmm, hw.c, ?_⟩
      rw [show mergeR (CellV.pl ⟨Zcw, Zfw, Zfv, ⟨Zds, Zdr, Zal⟩⟩) (CellV.pl ⟨Zdk, Zgl, Zgk, ⟨Zeb, Zea, Zan⟩⟩) = (mergeC _ _, 0) from if_pos ⟨ha, hb⟩]
      refine ⟨⟨Zdk, Zgl, Zgk, ⟨s_a, s_c, s_l⟩⟩, rfl, ?_, ⟨k_s⟩⟩
      unfold mergeC
      rw [if_pos (by simp only [CellV.pl]; omega)]
      simp only [CellV.pl, hsl]
      rfl
    ·replace hc7 := dF hc7
     refine Zax ?_; refine Zc ?_; refine Y_pk [6, 5, 4, 3, 2] ?_; refine Zj ?_; refine Za (l := [0, 1, 2, 3, 4]) rfl ?_; refine Zb F.foff37_3 ?_; refine Zi F.lay35 ?_; refine Zgy rfl rfl F.ok99 rfl (CloneK_ok _ _ _ _ Zef (by omega)) (by repeat first | exact Rem.here _ | exact Rem.two | apply Rem.skip | apply Rem.over) (fun _ _ _ hm hw => (hw.lower (by exact hm)).c) (Zbq rfl) ?_
     rintro v0 M1 hs0 hm0 ⟨hM1, ho0⟩; subst M1
     obtain ⟨ad0, cp0, rfl⟩ := ho0.valL
     refine Zb F.foff37_3 ?_; refine Zas F.lay35 ?_; refine Ze ?_; refine Zc ?_; refine Y_pk [6, 5, 4, 3, 2] ?_
     iterate 2 refine Zj ?_
     refine Zgw ho0 (by repeat first | exact Rem.here _ | exact Rem.two | apply Rem.skip | apply Rem.over) (fun M0 hm0 k_s0 => ?_)
     have hs0l : Zal = (Zan.take 0).foldl (addM Zal) Zal := rfl
     obtain ⟨s0, hs0⟩ : ∃ s0 : Sl MarkV, s0 = ⟨ad0, cp0, Zal⟩ := ⟨_, rfl⟩
     have e0 : Value.slice ad0 Zal.length cp0 = s0.val := by rw [hs0]; rfl
     rw [e0]
     rw [← hs0] at k_s0
     replace hs0l : s0.l = (Zan.take 0).foldl (addM Zal) Zal := by rw [hs0]; exact hs0l
     have s_b0 := Zfs.mono hm0
     refine Za (l := [0, 1, 2, 3]) rfl ?_; refine Zb F.foff37_3 ?_; refine Zi F.lay35 ?_; refine Zbb F.elem35 ?_; refine Zf ?_; refine Ze ?_; refine Zc ?_; refine Y_pk [34, 33, 32, 6, 5, 4, 2] ?_; refine Zbe ?_; refine Y_pk [34, 33, 32, 6, 5, 4, 2] ?_; refine Zeo (Hin := [(b6, rowO [.one (.int .u64 Zcw), .one (.bool Zfw), .one (.string Zfv), .one (Sl.val s0)] 37)]) (.succ .zero) (by repeat first | exact Rem.here _ | exact Rem.two | apply Rem.skip | apply Rem.over) (fun (k : Nat) M1 h1 z => ∃ s : Sl MarkV, z = [(34, .int .i64 (k : Int))] ∧ k ≤ Zan.length ∧ s.l = (Zan.take k).foldl (addM Zal) Zal ∧ SlK M1 MarkV.segs 6 s ∧ h1 = [(b6, rowO [.one (.int .u64 Zcw), .one (.bool Zfw), .one (.string Zfv), .one (Sl.val s)] 37)]) (fun k => Zan.length - k) (0) (⟨s0, rfl, by omega, hs0l, k_s0, rfl⟩) ?_
     rintro k M1 h1 z hm1 ⟨⟨s_a, s_c, s_l⟩, rfl, hk, hsl, k_s, rfl⟩
     simp only at hsl
     have hmm := hm0.trans hm1
     have s_b1 := Zfs.mono hmm
     have s_a1 := s_a_marks.mono hmm
     have hsok : MarksOk s_l := by rw [hsl]; exact foldM_ok ham (fun m hm => hbm.1 m (List.mem_of_mem_take hm))
     refine Zj ?_; refine Za (l := [0]) rfl ?_; refine Zav ?_; refine Ze ?_; refine Zc ?_; refine Zj ?_
     refine Zau rfl (fun hc15 => ?_) (fun hc15 => ?_)
     ·replace hc15 := dT hc15
      refine Zax ?_; refine Zc ?_; refine Zj ?_; refine Zbe ?_; refine Zj ?_; refine Za (l := [0, 1, 2, 3]) rfl ?_; refine Zaa rfl rfl rfl rfl F.elem35 (by rfl) (by omega) (by exact SlM.plain (by assumption) (by (simp; omega))) rfl ?_; refine Zay rfl rfl rfl (by assumption) (by exact Zbl (by omega)) F.lay92 rfl rfl rfl ?_
      refine Zby F.zero92 ?_; intro b16
      refine Zas F.lay92 ?_; refine Ze ?_; refine Zc ?_; refine Zj ?_
      have hmk : MarkOk Zan[k] := hbm.1 _ (List.getElem_mem (by omega))
      have hmc := hmk.1
      refine Za (l := [0, 1, 2, 3, 4, 5, 6, 7, 8, 9]) rfl ?_; refine Zb F.foff37_3 ?_; refine Zi F.lay35 ?_; refine Zb F.foff92_0 ?_; refine Zi F.lay3 ?_; refine X_fs rfl rfl F.ok92 rfl (find_ok _ ⟨Zds, Zdr, Zal⟩ Zan[k].client (Zef.mono hmm) ham hmc) rfl ?_
      rintro _ rfl
      refine Zf ?_
      iterate 2 refine Zcf ?_
      iterate 2 refine Zd ?_
      refine Ze ?_; refine Zc ?_; refine Zj ?_; refine Zar (l := [0, 1, 2, 3, 4, 5, 6, 7, 8, 9, 10, 11, 12, 13, 14, 15, 16, 17, 18, 19, 20, 21]) #[0, 1, 3, 7, 15, 7, 63, 127, 7, 511, 1023, 2047, 4095, 2047, 16383, 32767, 65535, 2047, 133119, 524287, 1048575, 2097151] _ rfl (by kernel_rfl) (by kernel_rfl) St.drawn (fun _ h => h) ?_; refine Zf ?_; refine Zel ?_; refine Zf ?_
      refine Zag 48 rfl (fun hc17 => ?_) (fun hc17 => ?_)
      ·skip
       simp only [AnswerV.eta, MarkV.eta, CellV.eta, HeldV.eta, WaitV.eta, ServerV.eta, PeerV.eta, OpV.eta, ParcelV.eta, PostV.eta, WorkerV.eta] at hc17
       iterate 18 refine Zz ?_
       refine Zl ?_; refine Ze ?_; refine Zc ?_; refine Zcy rfl ?_; refine Za (l := [0, 1, 2, 3, 4, 5]) rfl ?_; refine Zb F.foff37_3 ?_; refine Zi F.lay35 ?_; refine Zi F.lay92 ?_; refine X_fn rfl rfl F.ok93 rfl (put_ok _ ⟨s_a, s_c, s_l⟩ Zan[k] k_s hsok hmk) rfl ?_
       rintro _ M2 hm2 ⟨⟨q_a, q_c, q_l⟩, rfl, hql, k_q⟩
       simp only at hql
       refine Zb F.foff37_3 ?_; refine Zas F.lay35 ?_; refine Ze ?_; refine Zde ?_; refine Zc ?_; refine Za (l := [0, 1]) rfl ?_; refine Zcc rfl rfl rfl rfl rfl (by exact Zbf (by decide) (by omega)) rfl ?_; refine Zf ?_; refine Ze ?_; refine Zcr (a' := [(34, _)]) (k + 1) ([(b6, rowO [.one (.int .u64 Zcw), .one (.bool Zfw), .one (.string Zfv), .one (Value.slice q_a q_l.length q_c)] 37)]) (.cons (k := 34) rfl (.cons (k := 33) rfl (.cons (k := 32) rfl (.cons (k := 6) rfl (.cons (k := 5) rfl (.cons (k := 4) rfl (.cons (k := 2) rfl (.nil)))))))) (hm1.trans hm2) (fun w hw => by first | exact hw | exact hw.c) ?_ ?_
       ·refine ⟨⟨q_a, q_c, q_l⟩, rfl, by omega, ?_, k_q, rfl⟩
        show _ = _
        rw [Zet (by omega), ← hsl]
        unfold addM
        rw [hql]; rw [ofM_is ham, dif_neg (by rw [(show isM Zal Zan[k].client = false from by have h9 := ‹(!isM Zal Zan[k].client) = true›; simpa using h9)]; decide)]
       ·omega
      ·skip
       simp only [AnswerV.eta, MarkV.eta, CellV.eta, HeldV.eta, WaitV.eta, ServerV.eta, PeerV.eta, OpV.eta, ParcelV.eta, PostV.eta, WorkerV.eta] at hc17
       refine Zb F.foff37_3 ?_; refine Zi F.lay35 ?_; refine Zf ?_
       have hif : isM Zal Zan[k].client = true := (show isM Zal Zan[k].client = true from by have h9 := ‹(!isM Zal Zan[k].client) = false›; simpa using h9)
       have hlt := Zgt hif
       refine Zaa rfl rfl rfl rfl F.elem35 (by rfl) (by omega) (by exact SlM.plain (by assumption) (by (simp; omega))) rfl ?_; refine Zay rfl rfl rfl (by assumption) (by exact Zbl (by omega)) F.lay92 rfl rfl rfl ?_; refine Zi F.lay92 ?_
       refine Zfx (m := 20) rfl rfl rfl rfl rfl (by constructor) (by constructor) F.lay92 F.kinds92 rfl F.guard92 (by exact FitMarkV _) (by exact FitMarkV _) rfl rfl rfl ?_; intro c18 he19
       replace he19 : c18 = true ↔ ¬ (Segs.cells _ = Segs.cells _) := he19
       obtain rfl := neD he19 (MarkV.inj (x := ⟨_, _, ⟨_, _, _, _⟩⟩) (y := ⟨_, _, ⟨_, _, _, _⟩⟩)); clear he19
       refine Zf ?_
       refine Zag 56 rfl (fun hc20 => ?_) (fun hc20 => ?_)
       ·replace hc20 := nT hc20
        simp only [AnswerV.eta, MarkV.eta, CellV.eta, HeldV.eta, WaitV.eta, ServerV.eta, PeerV.eta, OpV.eta, ParcelV.eta, PostV.eta, WorkerV.eta] at hc20
        simp only [List.get_eq_getElem] at hc20
        refine Zb F.foff37_3 ?_; refine Zi F.lay35 ?_; refine Zf ?_; refine Zaa rfl rfl rfl rfl F.elem35 (by rfl) (by omega) (by exact SlM.plain (by assumption) (by (simp; omega))) rfl ?_; refine Zaq rfl rfl rfl (by exact SlM.plain (by assumption) (by (simp; omega))) F.foff92_1 rfl ?_; refine Zay rfl rfl rfl (by assumption) (by exact Zbl (by omega)) F.lay22 rfl rfl rfl ?_; refine Zb F.foff92_1 ?_; refine Zi F.lay22 ?_; refine Zav ?_
        iterate 2 refine Zl ?_
        refine Ze ?_; refine Zc ?_
        refine Zau rfl (fun hc21 => ?_) (fun hc21 => ?_)
        ·replace hc21 := dT hc21
         simp only [AnswerV.eta, MarkV.eta, CellV.eta, HeldV.eta, WaitV.eta, ServerV.eta, PeerV.eta, OpV.eta, ParcelV.eta, PostV.eta, WorkerV.eta] at hc21
         simp only [List.get_eq_getElem] at hc21
         refine Za (l := [0, 1, 2, 3, 4, 5]) rfl ?_; refine Zb F.foff37_3 ?_; refine Zi F.lay35 ?_; refine Zi F.lay92 ?_; refine X_fn rfl rfl F.ok93 rfl (put_ok _ ⟨s_a, s_c, s_l⟩ Zan[k] k_s hsok hmk) rfl ?_
         rintro _ M2 hm2 ⟨⟨q_a, q_c, q_l⟩, rfl, hql, k_q⟩
         simp only at hql
         refine Zb F.foff37_3 ?_; refine Zas F.lay35 ?_; refine Ze ?_; refine Zde ?_; refine Zc ?_; refine Za (l := [0, 1]) rfl ?_; refine Zcc rfl rfl rfl rfl rfl (by exact Zbf (by decide) (by omega)) rfl ?_; refine Zf ?_; refine Ze ?_; refine Zcr (a' := [(34, _)]) (k + 1) ([(b6, rowO [.one (.int .u64 Zcw), .one (.bool Zfw), .one (.string Zfv), .one (Value.slice q_a q_l.length q_c)] 37)]) (.cons (k := 34) rfl (.cons (k := 33) rfl (.cons (k := 32) rfl (.cons (k := 6) rfl (.cons (k := 5) rfl (.cons (k := 4) rfl (.cons (k := 2) rfl (.nil)))))))) (hm1.trans hm2) (fun w hw => by first | exact hw | exact hw.c) ?_ ?_
         ·refine ⟨⟨q_a, q_c, q_l⟩, rfl, by omega, ?_, k_q, rfl⟩
          show _ = _
          rw [Zet (by omega), ← hsl]
          unfold addM
          rw [hql]; rw [ofM_is ham, dif_pos (show isM Zal Zan[k].client = true from by have h9 := ‹(!isM Zal Zan[k].client) = false›; simpa using h9)]
          exact (if_pos (by assumption)).symm
         ·omega
        ·replace hc21 := dF hc21
         simp only [AnswerV.eta, MarkV.eta, CellV.eta, HeldV.eta, WaitV.eta, ServerV.eta, PeerV.eta, OpV.eta, ParcelV.eta, PostV.eta, WorkerV.eta] at hc21
         simp only [List.get_eq_getElem] at hc21
         refine Zax ?_; refine Zde ?_; refine Zc ?_; refine Za (l := [0, 1]) rfl ?_; refine Zcc rfl rfl rfl rfl rfl (by exact Zbf (by decide) (by omega)) rfl ?_; refine Zf ?_; refine Ze ?_; refine Zcr (a' := [(34, _)]) (k + 1) ([(b6, rowO [.one (.int .u64 Zcw), .one (.bool Zfw), .one (.string Zfv), .one (Sl.val (⟨s_a, s_c, s_l⟩ : Sl MarkV))] 37)]) (.cons (k := 34) rfl (.cons (k := 33) rfl (.cons (k := 32) rfl (.cons (k := 6) rfl (.cons (k := 5) rfl (.cons (k := 4) rfl (.cons (k := 2) rfl (.nil)))))))) hm1 (fun w hw => by first | exact hw | exact hw.c) ?_ ?_
         ·refine ⟨⟨s_a, s_c, s_l⟩, rfl, by omega, ?_, k_s, rfl⟩
          show _ = _
          rw [Zet (by omega), ← hsl]
          unfold addM
          rw [ofM_is ham, dif_pos (show isM Zal Zan[k].client = true from by have h9 := ‹(!isM Zal Zan[k].client) = false›; simpa using h9)]
          refine (if_neg (fun h9 => ?_)).symm
          exact absurd h9 (by assumption)
         ·omega
       ·replace hc20 := nF hc20
        simp only [AnswerV.eta, MarkV.eta, CellV.eta, HeldV.eta, WaitV.eta, ServerV.eta, PeerV.eta, OpV.eta, ParcelV.eta, PostV.eta, WorkerV.eta] at hc20
        simp only [List.get_eq_getElem] at hc20
        iterate 9 refine Zz ?_
        iterate 2 refine Zl ?_
        refine Ze ?_; refine Zc ?_; refine Zeu rfl ?_; refine Zax ?_; refine Zde ?_; refine Zc ?_; refine Za (l := [0, 1]) rfl ?_; refine Zcc rfl rfl rfl rfl rfl (by exact Zbf (by decide) (by omega)) rfl ?_; refine Zf ?_; refine Ze ?_; refine Zcr (a' := [(34, _)]) (k + 1) ([(b6, rowO [.one (.int .u64 Zcw), .one (.bool Zfw), .one (.string Zfv), .one (Sl.val (⟨s_a, s_c, s_l⟩ : Sl MarkV))] 37)]) (.cons (k := 34) rfl (.cons (k := 33) rfl (.cons (k := 32) rfl (.cons (k := 6) rfl (.cons (k := 5) rfl (.cons (k := 4) rfl (.cons (k := 2) rfl (.nil)))))))) hm1 (fun w hw => by first | exact hw | exact hw.c) ?_ ?_
        ·refine ⟨⟨s_a, s_c, s_l⟩, rfl, by omega, ?_, k_s, rfl⟩
         show _ = _
         rw [Zet (by omega), ← hsl]
         unfold addM
         rw [ofM_is ham, dif_pos (show isM Zal Zan[k].client = true from by have h9 := ‹(!isM Zal Zan[k].client) = false›; simpa using h9)]
         refine (if_neg (fun h9 => ?_)).symm
         (have e9 : Zal[atM Zal Zan[k].client] = Zan[k] := (by assumption); rw [e9] at h9; omega)
        ·omega
     ·replace hc15 := dF hc15
      refine Zcm ?_
      iterate 2 refine Zcd ?_
      refine Zdl ?_; refine Zc ?_; refine Y_pk [6, 5, 4] ?_; refine Zj ?_; refine Za (l := [0, 1, 2]) rfl ?_; refine Zi F.lay37 ?_; refine Zas F.lay37 ?_; refine Zd ?_; refine Ze ?_; refine Zc ?_; refine Y_pk [5, 4] ?_; refine Zak ?_
      refine Zaj (.inr rfl) (.cell rfl (by repeat first | exact List.Mem.head _ | refine List.Mem.tail _ ?_ | refine List.mem_append_right _ ?_) F.lay37 rfl rfl (.tmp rfl .nil)) (fun w hw => ?_)
      obtain rfl : k = Zan.length := by omega
      rw [List.take_length] at hsl
      refine ⟨_, M1, rfl, hmm, hw.c, ?_⟩
      rw [show mergeR (CellV.pl ⟨Zcw, Zfw, Zfv, ⟨Zds, Zdr, Zal⟩⟩) (CellV.pl ⟨Zdk, Zgl, Zgk, ⟨Zeb, Zea, Zan⟩⟩) = (mergeC _ _, 0) from if_pos ⟨ha, hb⟩]
      refine ⟨⟨Zcw, Zfw, Zfv, ⟨s_a, s_c, s_l⟩⟩, rfl, ?_, ⟨k_s⟩⟩
      unfold mergeC
      rw [if_neg (by simp only [CellV.pl]; omega)]
      simp only [CellV.pl, hsl]
      rfl
end Go.Proofs.YtpkeilhilpogiaaGreat
