/-
  Clients, operations, cells, parcels: what the program and the document say of them, in plain Lean.
-/
import Derived.Test.YtelpkhhfjfbkcaaDoorTypes
set_option linter.unusedSimpArgs false
set_option linter.unusedVariables false
set_option linter.unnecessarySimpa false
namespace Go.Esp

def OkVal (s : ByteArray) (has : Bool) : Prop := s.size ≤ 2048 ∧ (has = true ∨ s = ⟨#[]⟩)
instance (s : ByteArray) (h : Bool) : Decidable (OkVal s h) := by unfold OkVal; exact inferInstance

def IsOp (o : OpV) : Prop := (0 ≤ o.client ∧ o.client ≤ 63) ∧ ((o.kind = 1 ∧ o.version = 0 ∧ o.val = ⟨#[]⟩) ∨ (o.kind = 4 ∧ o.val = ⟨#[]⟩) ∨ (o.kind = 2 ∧ o.version = 0 ∧ o.val.size ≤ 2048) ∨ (o.kind = 3 ∧ o.val.size ≤ 2048))
instance (o : OpV) : Decidable (IsOp o) := by unfold IsOp; exact inferInstance

def IsClient (c : ClientV) : Prop := (0 ≤ c.num ∧ c.num ≤ 63) ∧ (0 ≤ c.tries ∧ c.tries ≤ 1000) ∧ (c.busy = false ∨ (IsOp c.op ∧ c.op.client = c.num ∧ c.op.req = c.req))
instance (c : ClientV) : Decidable (IsClient c) := by unfold IsClient; exact inferInstance

def newC (num : Int) : ClientV × Int := if 0 ≤ num ∧ num ≤ 63 then ({ ClientV.zero with num := num }, 0) else (ClientV.zero, 1)

/-- The operation with which a client begins. -/
def opOf (c : ClientV) (kind version : Int) (val : ByteArray) : OpV := ⟨c.num, w64 (c.req + 1), kind, version, val⟩
def startC (c : ClientV) (key : Plc) (kind version : Int) (val : ByteArray) : ClientV × Int :=
  if ¬ IsClient c then (ClientV.zero, 1) else if c.busy = true then (ClientV.zero, 13) else if ¬ IsOp (opOf c kind version val) then (ClientV.zero, 1)
  else (⟨c.num, w64 (c.req + 1), true, key, opOf c kind version val, 0⟩, 0)

/-- Marks rise, and say no more than they may. -/
def IsMarks : Int → List MarkV → Prop
  | _, [] => True
  | last, m :: r => (last < m.client ∧ m.client ≤ 63 ∧ m.answer.val = ⟨#[]⟩ ∧ (m.answer.code = 0 ∨ m.answer.code = 8)) ∧ IsMarks m.client r
instance decMarks : (last : Int) → (l : List MarkV) → Decidable (IsMarks last l)
  | _, [] => .isTrue trivial
  | last, m :: r => by unfold IsMarks; have := decMarks m.client r; exact inferInstance

def IsCell (c : CellV) : Prop := IsMarks (-1) c.marks.l ∧ OkVal c.val c.has
instance (c : CellV) : Decidable (IsCell c) := by unfold IsCell; exact inferInstance

def OkMark (a : AnswerV) : Prop := a.val = ⟨#[]⟩ ∧ (a.code = 0 ∨ a.code = 8)
instance (a : AnswerV) : Decidable (OkMark a) := by unfold OkMark; exact inferInstance

theorem isMarks_take {l : List MarkV} : ∀ {k : Nat} (hk : k < l.length) {last : Int}, IsMarks last (l.take (k + 1)) ↔ IsMarks last (l.take k) ∧ (if h : 0 < k then (l[k - 1]'(by omega)).client else last) < l[k].client ∧ l[k].client ≤ 63 ∧ OkMark l[k].answer := by
  induction l with
  | nil => intro k hk; cases hk
  | cons m r ih =>
    intro k hk last
    cases k with
    | zero => simp [IsMarks, OkMark, and_assoc]
    | succ k =>
      have hk' : k < r.length := by simpa using hk
      have := ih hk' (last := m.client)
      simp only [List.take_succ_cons, IsMarks, List.getElem_cons_succ, this]
      have e : (if h : 0 < k + 1 then ((m :: r)[k + 1 - 1]'(by simp; omega)).client else last) = (if h : 0 < k then (r[k - 1]'(by omega)).client else m.client) := by
        cases k with
        | zero => simp
        | succ k => simp
      rw [e]
      constructor
      · rintro ⟨h1, h2, h3⟩; exact ⟨⟨h1, h2⟩, h3⟩
      · rintro ⟨⟨h1, h2⟩, h3⟩; exact ⟨h1, h2, h3⟩

theorem isMarks_pre {l : List MarkV} {last : Int} : ∀ {k : Nat}, IsMarks last l → IsMarks last (l.take k) := by
  induction l generalizing last with
  | nil => intro k h; simpa using h
  | cons m r ih =>
    intro k h
    cases k with
    | zero => simp [IsMarks]
    | succ k => exact ⟨h.1, ih h.2⟩

theorem isMarks_gt {l : List MarkV} {last : Int} (h : IsMarks last l) : ∀ m ∈ l, last < m.client := by
  induction l generalizing last with
  | nil => intro m hm; cases hm
  | cons a r ih =>
    intro m hm
    rcases List.mem_cons.1 hm with rfl | hm
    · exact h.1.1
    · have := ih h.2 m hm
      have := h.1.1
      omega

theorem isMarks_prev {l : List MarkV} {k : Nat} (hk : k < l.length) (h : IsMarks (-1) (l.take k)) : -1 ≤ (if h : 0 < k then (l[k - 1]'(by omega)).client else -1) := by
  split
  · rename_i h0
    have hm : l[k - 1]'(by omega) ∈ l.take k := by
      rw [List.mem_take_iff_getElem]
      exact ⟨k - 1, by omega, rfl⟩
    have := isMarks_gt h _ hm
    omega
  · omega

/-- Is nothing in a cell? -/
def Bare (c : CellV) : Prop := c.version = 0 ∧ c.has = false ∧ c.val = ⟨#[]⟩ ∧ c.marks.l = []
instance (c : CellV) : Decidable (Bare c) := by unfold Bare; exact inferInstance

def SameCell (c d : CellV) : Prop := c.version = d.version ∧ c.has = d.has ∧ c.val = d.val ∧ c.marks.l = d.marks.l
instance (c d : CellV) : Decidable (SameCell c d) := by unfold SameCell; exact inferInstance

def OkAnswer (a : AnswerV) : Prop := (a.code = 0 ∨ a.code = 8 ∨ a.code = 7 ∨ a.code = 9) ∧ a.val.size ≤ 2048 ∧ (a.has = true ∨ a.val = ⟨#[]⟩)
instance (a : AnswerV) : Decidable (OkAnswer a) := by unfold OkAnswer; exact inferInstance

def IsParcel (p : ParcelV) : Prop :=
  (p.kind = 1 ∧ IsOp p.op ∧ p.answer = AnswerV.zero ∧ p.serial = 0 ∧ Bare p.cell) ∨
  (p.kind = 2 ∧ p.key = 0 ∧ p.op = ⟨p.op.client, p.op.req, 0, 0, ⟨#[]⟩⟩ ∧ 0 ≤ p.op.client ∧ p.op.client ≤ 63 ∧ OkAnswer p.answer ∧ p.serial = 0 ∧ Bare p.cell) ∨
  (p.kind = 3 ∧ p.op = OpV.zero ∧ p.answer = AnswerV.zero ∧ IsCell p.cell) ∨
  (p.kind = 4 ∧ p.key = 0 ∧ p.op = OpV.zero ∧ p.answer = AnswerV.zero ∧ Bare p.cell)
instance (p : ParcelV) : Decidable (IsParcel p) := by unfold IsParcel; exact inferInstance

def SameParcel (p q : ParcelV) : Prop := p.kind = q.kind ∧ p.epoch = q.epoch ∧ p.key = q.key ∧ p.op = q.op ∧ p.answer = q.answer ∧ p.serial = q.serial ∧ SameCell p.cell q.cell
instance (p q : ParcelV) : Decidable (SameParcel p q) := by unfold SameParcel; exact inferInstance

theorem empty_size : (⟨#[]⟩ : ByteArray).size = 0 := rfl

def ofPair (r : ClientV × Int) : Value := .tuple #[r.1.enc, .int .i64 r.2]
end Go.Esp
