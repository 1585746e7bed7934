/-
  The program's structs: what their cells are.
-/
import Derived.Test.YtelpkhhfjfbkcaaDoorShort
set_option linter.unusedSimpArgs false
set_option linter.unusedVariables false
set_option linter.unnecessarySimpa false
set_option maxRecDepth 8000
namespace Go.Esp
structure OpV where
  client : Int
  req : Int
  kind : Int
  version : Int
  val : ByteArray
  deriving DecidableEq

def OpV.segs : OpV → Segs
  | ⟨a1, a2, a3, a4, a5⟩ => [.one (.int .i64 a1), .one (.int .u64 a2), .one (.int .i64 a3), .one (.int .u64 a4), .one (.string a5)]
theorem OpV.eta (x : OpV) : (⟨x.client, x.req, x.kind, x.version, x.val⟩ : OpV) = x := rfl
def OpV.enc (x : OpV) : Value := aggV x.segs
def OpV.zero : OpV := ⟨0, 0, 0, 0, ⟨#[]⟩⟩
theorem OpV.len (x : OpV) : Segs.len x.segs = 5 := by
  obtain ⟨a1, a2, a3, a4, a5⟩ := x
  simp only [OpV.segs, Segs.len, Seg.len, idSeg]
theorem OpV.flat (x : OpV) : Esp.flat x.segs := by
  obtain ⟨a1, a2, a3, a4, a5⟩ := x
  simp only [OpV.segs]
  refine flat_one rfl ?_
  refine flat_one rfl ?_
  refine flat_one rfl ?_
  refine flat_one rfl ?_
  refine flat_one rfl ?_
  exact flat_nil
theorem OpV.inj {x y : OpV} : Segs.cells x.segs = Segs.cells y.segs ↔ x = y := by
  obtain ⟨a1, a2, a3, a4, a5⟩ := x
  obtain ⟨b1, b2, b3, b4, b5⟩ := y
  simp only [OpV.segs, cells_one, cells_id, Value.int.injEq, Value.bool.injEq, Value.string.injEq, true_and, and_true, and_assoc, OpV.mk.injEq]
structure ClientV where
  num : Int
  req : Int
  busy : Bool
  key : Plc
  op : OpV
  tries : Int
  deriving DecidableEq

def ClientV.segs : ClientV → Segs
  | ⟨a1, a2, a3, a4, ⟨a5, a6, a7, a8, a9⟩, a10⟩ => [.one (.int .i64 a1), .one (.int .u64 a2), .one (.bool a3), idSeg a4, .one (.int .i64 a5), .one (.int .u64 a6), .one (.int .i64 a7), .one (.int .u64 a8), .one (.string a9), .one (.int .i64 a10)]
theorem ClientV.eta (x : ClientV) : (⟨x.num, x.req, x.busy, x.key, x.op, x.tries⟩ : ClientV) = x := rfl
def ClientV.enc (x : ClientV) : Value := aggV x.segs
def ClientV.zero : ClientV := ⟨0, 0, false, 0, ⟨0, 0, 0, 0, ⟨#[]⟩⟩, 0⟩
theorem ClientV.len (x : ClientV) : Segs.len x.segs = 29 := by
  obtain ⟨a1, a2, a3, a4, ⟨a5, a6, a7, a8, a9⟩, a10⟩ := x
  simp only [ClientV.segs, Segs.len, Seg.len, idSeg]
theorem ClientV.flat (x : ClientV) : Esp.flat x.segs := by
  obtain ⟨a1, a2, a3, a4, ⟨a5, a6, a7, a8, a9⟩, a10⟩ := x
  simp only [ClientV.segs]
  refine flat_one rfl ?_
  refine flat_one rfl ?_
  refine flat_one rfl ?_
  refine flat_id ?_
  refine flat_one rfl ?_
  refine flat_one rfl ?_
  refine flat_one rfl ?_
  refine flat_one rfl ?_
  refine flat_one rfl ?_
  refine flat_one rfl ?_
  exact flat_nil
theorem ClientV.inj {x y : ClientV} : Segs.cells x.segs = Segs.cells y.segs ↔ x = y := by
  obtain ⟨a1, a2, a3, a4, ⟨a5, a6, a7, a8, a9⟩, a10⟩ := x
  obtain ⟨b1, b2, b3, b4, ⟨b5, b6, b7, b8, b9⟩, b10⟩ := y
  simp only [ClientV.segs, cells_one, cells_id, Value.int.injEq, Value.bool.injEq, Value.string.injEq, true_and, and_true, and_assoc, ClientV.mk.injEq, OpV.mk.injEq]
structure AnswerV where
  code : Int
  version : Int
  has : Bool
  val : ByteArray
  deriving DecidableEq

def AnswerV.segs : AnswerV → Segs
  | ⟨a1, a2, a3, a4⟩ => [.one (.int .i64 a1), .one (.int .u64 a2), .one (.bool a3), .one (.string a4)]
theorem AnswerV.eta (x : AnswerV) : (⟨x.code, x.version, x.has, x.val⟩ : AnswerV) = x := rfl
def AnswerV.enc (x : AnswerV) : Value := aggV x.segs
def AnswerV.zero : AnswerV := ⟨0, 0, false, ⟨#[]⟩⟩
theorem AnswerV.len (x : AnswerV) : Segs.len x.segs = 4 := by
  obtain ⟨a1, a2, a3, a4⟩ := x
  simp only [AnswerV.segs, Segs.len, Seg.len, idSeg]
theorem AnswerV.flat (x : AnswerV) : Esp.flat x.segs := by
  obtain ⟨a1, a2, a3, a4⟩ := x
  simp only [AnswerV.segs]
  refine flat_one rfl ?_
  refine flat_one rfl ?_
  refine flat_one rfl ?_
  refine flat_one rfl ?_
  exact flat_nil
theorem AnswerV.inj {x y : AnswerV} : Segs.cells x.segs = Segs.cells y.segs ↔ x = y := by
  obtain ⟨a1, a2, a3, a4⟩ := x
  obtain ⟨b1, b2, b3, b4⟩ := y
  simp only [AnswerV.segs, cells_one, cells_id, Value.int.injEq, Value.bool.injEq, Value.string.injEq, true_and, and_true, and_assoc, AnswerV.mk.injEq]
structure OutcomeV where
  done : Bool
  answer : AnswerV
  deriving DecidableEq

def OutcomeV.segs : OutcomeV → Segs
  | ⟨a1, ⟨a2, a3, a4, a5⟩⟩ => [.one (.bool a1), .one (.int .i64 a2), .one (.int .u64 a3), .one (.bool a4), .one (.string a5)]
theorem OutcomeV.eta (x : OutcomeV) : (⟨x.done, x.answer⟩ : OutcomeV) = x := rfl
def OutcomeV.enc (x : OutcomeV) : Value := aggV x.segs
def OutcomeV.zero : OutcomeV := ⟨false, ⟨0, 0, false, ⟨#[]⟩⟩⟩
theorem OutcomeV.len (x : OutcomeV) : Segs.len x.segs = 5 := by
  obtain ⟨a1, ⟨a2, a3, a4, a5⟩⟩ := x
  simp only [OutcomeV.segs, Segs.len, Seg.len, idSeg]
theorem OutcomeV.flat (x : OutcomeV) : Esp.flat x.segs := by
  obtain ⟨a1, ⟨a2, a3, a4, a5⟩⟩ := x
  simp only [OutcomeV.segs]
  refine flat_one rfl ?_
  refine flat_one rfl ?_
  refine flat_one rfl ?_
  refine flat_one rfl ?_
  refine flat_one rfl ?_
  exact flat_nil
theorem OutcomeV.inj {x y : OutcomeV} : Segs.cells x.segs = Segs.cells y.segs ↔ x = y := by
  obtain ⟨a1, ⟨a2, a3, a4, a5⟩⟩ := x
  obtain ⟨b1, ⟨b2, b3, b4, b5⟩⟩ := y
  simp only [OutcomeV.segs, cells_one, cells_id, Value.int.injEq, Value.bool.injEq, Value.string.injEq, true_and, and_true, and_assoc, OutcomeV.mk.injEq, AnswerV.mk.injEq]
structure MarkV where
  client : Int
  req : Int
  answer : AnswerV
  deriving DecidableEq

def MarkV.segs : MarkV → Segs
  | ⟨a1, a2, ⟨a3, a4, a5, a6⟩⟩ => [.one (.int .i64 a1), .one (.int .u64 a2), .one (.int .i64 a3), .one (.int .u64 a4), .one (.bool a5), .one (.string a6)]
theorem MarkV.eta (x : MarkV) : (⟨x.client, x.req, x.answer⟩ : MarkV) = x := rfl
def MarkV.enc (x : MarkV) : Value := aggV x.segs
def MarkV.zero : MarkV := ⟨0, 0, ⟨0, 0, false, ⟨#[]⟩⟩⟩
theorem MarkV.len (x : MarkV) : Segs.len x.segs = 6 := by
  obtain ⟨a1, a2, ⟨a3, a4, a5, a6⟩⟩ := x
  simp only [MarkV.segs, Segs.len, Seg.len, idSeg]
theorem MarkV.flat (x : MarkV) : Esp.flat x.segs := by
  obtain ⟨a1, a2, ⟨a3, a4, a5, a6⟩⟩ := x
  simp only [MarkV.segs]
  refine flat_one rfl ?_
  refine flat_one rfl ?_
  refine flat_one rfl ?_
  refine flat_one rfl ?_
  refine flat_one rfl ?_
  refine flat_one rfl ?_
  exact flat_nil
theorem MarkV.inj {x y : MarkV} : Segs.cells x.segs = Segs.cells y.segs ↔ x = y := by
  obtain ⟨a1, a2, ⟨a3, a4, a5, a6⟩⟩ := x
  obtain ⟨b1, b2, ⟨b3, b4, b5, b6⟩⟩ := y
  simp only [MarkV.segs, cells_one, cells_id, Value.int.injEq, Value.bool.injEq, Value.string.injEq, true_and, and_true, and_assoc, MarkV.mk.injEq, AnswerV.mk.injEq]
structure CellV where
  version : Int
  has : Bool
  val : ByteArray
  marks : (Sl MarkV)

def CellV.segs : CellV → Segs
  | ⟨a1, a2, a3, a4⟩ => [.one (.int .u64 a1), .one (.bool a2), .one (.string a3), .one (a4).val]
theorem CellV.eta (x : CellV) : (⟨x.version, x.has, x.val, x.marks⟩ : CellV) = x := rfl
def CellV.enc (x : CellV) : Value := aggV x.segs
def CellV.zero : CellV := ⟨0, false, ⟨#[]⟩, ⟨none, 0, []⟩⟩
theorem CellV.len (x : CellV) : Segs.len x.segs = 4 := by
  obtain ⟨a1, a2, a3, a4⟩ := x
  simp only [CellV.segs, Segs.len, Seg.len, idSeg]
theorem CellV.flat (x : CellV) : Esp.flat x.segs := by
  obtain ⟨a1, a2, a3, a4⟩ := x
  simp only [CellV.segs]
  refine flat_one rfl ?_
  refine flat_one rfl ?_
  refine flat_one rfl ?_
  refine flat_one (Sl.one _) ?_
  exact flat_nil
structure CellV.ok (M : Mem) (x : CellV) : Prop where
  h0 : SlM M (x.marks).a ((x.marks).l.map MarkV.segs) 6
  h1 : (x.marks).l.length ≤ maxLen

theorem CellV.ok.mono {M M' : Mem} {x : CellV} (h : CellV.ok M x) (hm : M.le M') : CellV.ok M' x := ⟨h.h0.mono hm, h.h1⟩
theorem CellV.zero_ok (M : Mem) : CellV.ok M CellV.zero := ⟨SlM.nil _ _ _, Nat.zero_le _⟩
structure ParcelV where
  kind : Int
  epoch : Int
  key : Plc
  op : OpV
  answer : AnswerV
  serial : Int
  cell : CellV

def ParcelV.segs : ParcelV → Segs
  | ⟨a1, a2, a3, ⟨a4, a5, a6, a7, a8⟩, ⟨a9, a10, a11, a12⟩, a13, ⟨a14, a15, a16, a17⟩⟩ => [.one (.int .i64 a1), .one (.int .u64 a2), idSeg a3, .one (.int .i64 a4), .one (.int .u64 a5), .one (.int .i64 a6), .one (.int .u64 a7), .one (.string a8), .one (.int .i64 a9), .one (.int .u64 a10), .one (.bool a11), .one (.string a12), .one (.int .u64 a13), .one (.int .u64 a14), .one (.bool a15), .one (.string a16), .one (a17).val]
theorem ParcelV.eta (x : ParcelV) : (⟨x.kind, x.epoch, x.key, x.op, x.answer, x.serial, x.cell⟩ : ParcelV) = x := rfl
def ParcelV.enc (x : ParcelV) : Value := aggV x.segs
def ParcelV.zero : ParcelV := ⟨0, 0, 0, ⟨0, 0, 0, 0, ⟨#[]⟩⟩, ⟨0, 0, false, ⟨#[]⟩⟩, 0, ⟨0, false, ⟨#[]⟩, ⟨none, 0, []⟩⟩⟩
theorem ParcelV.len (x : ParcelV) : Segs.len x.segs = 36 := by
  obtain ⟨a1, a2, a3, ⟨a4, a5, a6, a7, a8⟩, ⟨a9, a10, a11, a12⟩, a13, ⟨a14, a15, a16, a17⟩⟩ := x
  simp only [ParcelV.segs, Segs.len, Seg.len, idSeg]
theorem ParcelV.flat (x : ParcelV) : Esp.flat x.segs := by
  obtain ⟨a1, a2, a3, ⟨a4, a5, a6, a7, a8⟩, ⟨a9, a10, a11, a12⟩, a13, ⟨a14, a15, a16, a17⟩⟩ := x
  simp only [ParcelV.segs]
  refine flat_one rfl ?_
  refine flat_one rfl ?_
  refine flat_id ?_
  refine flat_one rfl ?_
  refine flat_one rfl ?_
  refine flat_one rfl ?_
  refine flat_one rfl ?_
  refine flat_one rfl ?_
  refine flat_one rfl ?_
  refine flat_one rfl ?_
  refine flat_one rfl ?_
  refine flat_one rfl ?_
  refine flat_one rfl ?_
  refine flat_one rfl ?_
  refine flat_one rfl ?_
  refine flat_one rfl ?_
  refine flat_one (Sl.one _) ?_
  exact flat_nil
structure ParcelV.ok (M : Mem) (x : ParcelV) : Prop where
  h0 : CellV.ok M x.cell

theorem ParcelV.ok.mono {M M' : Mem} {x : ParcelV} (h : ParcelV.ok M x) (hm : M.le M') : ParcelV.ok M' x := ⟨h.h0.mono hm⟩
theorem ParcelV.zero_ok (M : Mem) : ParcelV.ok M ParcelV.zero := ⟨CellV.zero_ok M⟩
structure PostV where
  to : Int
  parcel : ParcelV

def PostV.segs : PostV → Segs
  | ⟨a1, ⟨a2, a3, a4, ⟨a5, a6, a7, a8, a9⟩, ⟨a10, a11, a12, a13⟩, a14, ⟨a15, a16, a17, a18⟩⟩⟩ => [.one (.int .i64 a1), .one (.int .i64 a2), .one (.int .u64 a3), idSeg a4, .one (.int .i64 a5), .one (.int .u64 a6), .one (.int .i64 a7), .one (.int .u64 a8), .one (.string a9), .one (.int .i64 a10), .one (.int .u64 a11), .one (.bool a12), .one (.string a13), .one (.int .u64 a14), .one (.int .u64 a15), .one (.bool a16), .one (.string a17), .one (a18).val]
theorem PostV.eta (x : PostV) : (⟨x.to, x.parcel⟩ : PostV) = x := rfl
def PostV.enc (x : PostV) : Value := aggV x.segs
def PostV.zero : PostV := ⟨0, ⟨0, 0, 0, ⟨0, 0, 0, 0, ⟨#[]⟩⟩, ⟨0, 0, false, ⟨#[]⟩⟩, 0, ⟨0, false, ⟨#[]⟩, ⟨none, 0, []⟩⟩⟩⟩
theorem PostV.len (x : PostV) : Segs.len x.segs = 37 := by
  obtain ⟨a1, ⟨a2, a3, a4, ⟨a5, a6, a7, a8, a9⟩, ⟨a10, a11, a12, a13⟩, a14, ⟨a15, a16, a17, a18⟩⟩⟩ := x
  simp only [PostV.segs, Segs.len, Seg.len, idSeg]
theorem PostV.flat (x : PostV) : Esp.flat x.segs := by
  obtain ⟨a1, ⟨a2, a3, a4, ⟨a5, a6, a7, a8, a9⟩, ⟨a10, a11, a12, a13⟩, a14, ⟨a15, a16, a17, a18⟩⟩⟩ := x
  simp only [PostV.segs]
  refine flat_one rfl ?_
  refine flat_one rfl ?_
  refine flat_one rfl ?_
  refine flat_id ?_
  refine flat_one rfl ?_
  refine flat_one rfl ?_
  refine flat_one rfl ?_
  refine flat_one rfl ?_
  refine flat_one rfl ?_
  refine flat_one rfl ?_
  refine flat_one rfl ?_
  refine flat_one rfl ?_
  refine flat_one rfl ?_
  refine flat_one rfl ?_
  refine flat_one rfl ?_
  refine flat_one rfl ?_
  refine flat_one rfl ?_
  refine flat_one (Sl.one _) ?_
  exact flat_nil
structure PostV.ok (M : Mem) (x : PostV) : Prop where
  h0 : ParcelV.ok M x.parcel

theorem PostV.ok.mono {M M' : Mem} {x : PostV} (h : PostV.ok M x) (hm : M.le M') : PostV.ok M' x := ⟨h.h0.mono hm⟩
theorem PostV.zero_ok (M : Mem) : PostV.ok M PostV.zero := ⟨ParcelV.zero_ok M⟩
structure PeerV where
  addr : Int
  id : Plc
  deriving DecidableEq

def PeerV.segs : PeerV → Segs
  | ⟨a1, a2⟩ => [.one (.int .i64 a1), idSeg a2]
theorem PeerV.eta (x : PeerV) : (⟨x.addr, x.id⟩ : PeerV) = x := rfl
def PeerV.enc (x : PeerV) : Value := aggV x.segs
def PeerV.zero : PeerV := ⟨0, 0⟩
theorem PeerV.len (x : PeerV) : Segs.len x.segs = 21 := by
  obtain ⟨a1, a2⟩ := x
  simp only [PeerV.segs, Segs.len, Seg.len, idSeg]
theorem PeerV.flat (x : PeerV) : Esp.flat x.segs := by
  obtain ⟨a1, a2⟩ := x
  simp only [PeerV.segs]
  refine flat_one rfl ?_
  refine flat_id ?_
  exact flat_nil
theorem PeerV.inj {x y : PeerV} : Segs.cells x.segs = Segs.cells y.segs ↔ x = y := by
  obtain ⟨a1, a2⟩ := x
  obtain ⟨b1, b2⟩ := y
  simp only [PeerV.segs, cells_one, cells_id, Value.int.injEq, Value.bool.injEq, Value.string.injEq, true_and, and_true, and_assoc, PeerV.mk.injEq]
structure StepL06V where
  kind : Int
  code : Int
  op : ByteArray
  n : Int
  deriving DecidableEq

def StepL06V.segs : StepL06V → Segs
  | ⟨a1, a2, a3, a4⟩ => [.one (.int .i64 a1), .one (.int .i64 a2), .one (.string a3), .one (.int .i64 a4)]
theorem StepL06V.eta (x : StepL06V) : (⟨x.kind, x.code, x.op, x.n⟩ : StepL06V) = x := rfl
def StepL06V.enc (x : StepL06V) : Value := aggV x.segs
def StepL06V.zero : StepL06V := ⟨0, 0, ⟨#[]⟩, 0⟩
theorem StepL06V.len (x : StepL06V) : Segs.len x.segs = 4 := by
  obtain ⟨a1, a2, a3, a4⟩ := x
  simp only [StepL06V.segs, Segs.len, Seg.len, idSeg]
theorem StepL06V.flat (x : StepL06V) : Esp.flat x.segs := by
  obtain ⟨a1, a2, a3, a4⟩ := x
  simp only [StepL06V.segs]
  refine flat_one rfl ?_
  refine flat_one rfl ?_
  refine flat_one rfl ?_
  refine flat_one rfl ?_
  exact flat_nil
theorem StepL06V.inj {x y : StepL06V} : Segs.cells x.segs = Segs.cells y.segs ↔ x = y := by
  obtain ⟨a1, a2, a3, a4⟩ := x
  obtain ⟨b1, b2, b3, b4⟩ := y
  simp only [StepL06V.segs, cells_one, cells_id, Value.int.injEq, Value.bool.injEq, Value.string.injEq, true_and, and_true, and_assoc, StepL06V.mk.injEq]
theorem FitOpV (x : OpV) : Fits [.i .i64, .i .u64, .i .i64, .i .u64, .s] (Segs.cells x.segs) := by
  obtain ⟨a1, a2, a3, a4, a5⟩ := x
  simp only [OpV.segs]
  refine fit_one (by first | exact rfl | exact trivial) ?_
  refine fit_one (by first | exact rfl | exact trivial) ?_
  refine fit_one (by first | exact rfl | exact trivial) ?_
  refine fit_one (by first | exact rfl | exact trivial) ?_
  refine fit_one (by first | exact rfl | exact trivial) ?_
  exact fit_nil
theorem FitClientV (x : ClientV) : Fits [.i .i64, .i .u64, .b, .i .u8, .i .u8, .i .u8, .i .u8, .i .u8, .i .u8, .i .u8, .i .u8, .i .u8, .i .u8, .i .u8, .i .u8, .i .u8, .i .u8, .i .u8, .i .u8, .i .u8, .i .u8, .i .u8, .i .u8, .i .i64, .i .u64, .i .i64, .i .u64, .s, .i .i64] (Segs.cells x.segs) := by
  obtain ⟨a1, a2, a3, a4, ⟨a5, a6, a7, a8, a9⟩, a10⟩ := x
  simp only [ClientV.segs]
  refine fit_one (by first | exact rfl | exact trivial) ?_
  refine fit_one (by first | exact rfl | exact trivial) ?_
  refine fit_one (by first | exact rfl | exact trivial) ?_
  refine fit_id ?_
  refine fit_one (by first | exact rfl | exact trivial) ?_
  refine fit_one (by first | exact rfl | exact trivial) ?_
  refine fit_one (by first | exact rfl | exact trivial) ?_
  refine fit_one (by first | exact rfl | exact trivial) ?_
  refine fit_one (by first | exact rfl | exact trivial) ?_
  refine fit_one (by first | exact rfl | exact trivial) ?_
  exact fit_nil
theorem FitAnswerV (x : AnswerV) : Fits [.i .i64, .i .u64, .b, .s] (Segs.cells x.segs) := by
  obtain ⟨a1, a2, a3, a4⟩ := x
  simp only [AnswerV.segs]
  refine fit_one (by first | exact rfl | exact trivial) ?_
  refine fit_one (by first | exact rfl | exact trivial) ?_
  refine fit_one (by first | exact rfl | exact trivial) ?_
  refine fit_one (by first | exact rfl | exact trivial) ?_
  exact fit_nil
theorem FitOutcomeV (x : OutcomeV) : Fits [.b, .i .i64, .i .u64, .b, .s] (Segs.cells x.segs) := by
  obtain ⟨a1, ⟨a2, a3, a4, a5⟩⟩ := x
  simp only [OutcomeV.segs]
  refine fit_one (by first | exact rfl | exact trivial) ?_
  refine fit_one (by first | exact rfl | exact trivial) ?_
  refine fit_one (by first | exact rfl | exact trivial) ?_
  refine fit_one (by first | exact rfl | exact trivial) ?_
  refine fit_one (by first | exact rfl | exact trivial) ?_
  exact fit_nil
theorem FitMarkV (x : MarkV) : Fits [.i .i64, .i .u64, .i .i64, .i .u64, .b, .s] (Segs.cells x.segs) := by
  obtain ⟨a1, a2, ⟨a3, a4, a5, a6⟩⟩ := x
  simp only [MarkV.segs]
  refine fit_one (by first | exact rfl | exact trivial) ?_
  refine fit_one (by first | exact rfl | exact trivial) ?_
  refine fit_one (by first | exact rfl | exact trivial) ?_
  refine fit_one (by first | exact rfl | exact trivial) ?_
  refine fit_one (by first | exact rfl | exact trivial) ?_
  refine fit_one (by first | exact rfl | exact trivial) ?_
  exact fit_nil
theorem FitPeerV (x : PeerV) : Fits [.i .i64, .i .u8, .i .u8, .i .u8, .i .u8, .i .u8, .i .u8, .i .u8, .i .u8, .i .u8, .i .u8, .i .u8, .i .u8, .i .u8, .i .u8, .i .u8, .i .u8, .i .u8, .i .u8, .i .u8, .i .u8] (Segs.cells x.segs) := by
  obtain ⟨a1, a2⟩ := x
  simp only [PeerV.segs]
  refine fit_one (by first | exact rfl | exact trivial) ?_
  refine fit_id ?_
  exact fit_nil
theorem FitStepL06V (x : StepL06V) : Fits [.i .i64, .i .i64, .s, .i .i64] (Segs.cells x.segs) := by
  obtain ⟨a1, a2, a3, a4⟩ := x
  simp only [StepL06V.segs]
  refine fit_one (by first | exact rfl | exact trivial) ?_
  refine fit_one (by first | exact rfl | exact trivial) ?_
  refine fit_one (by first | exact rfl | exact trivial) ?_
  refine fit_one (by first | exact rfl | exact trivial) ?_
  exact fit_nil
/-- Less of what is ours. -/
theorem St.c {M : Mem} {H H' : Hp} {w : World} (h : St M H w) (hc : ∀ zz, Esp.cnt zz H' ≤ Esp.cnt zz H := by intro zz; first | exact Nat.le_refl _ | (simp only [cnt_app, cnt_cons, cnt_nil, cat, List.append_eq, List.append_assoc, List.cons_append, List.nil_append, List.append_nil]; omega) | (simp only [cnt_app, cnt_cons, cnt_nil, cat, List.append_eq, List.append_assoc, List.cons_append, List.nil_append, List.append_nil, OpV.segs, ClientV.segs, AnswerV.segs, OutcomeV.segs, MarkV.segs, CellV.segs, ParcelV.segs, PostV.segs, PeerV.segs, StepL06V.segs]; omega)) : St M H' w := h.cnt hc
end Go.Esp
