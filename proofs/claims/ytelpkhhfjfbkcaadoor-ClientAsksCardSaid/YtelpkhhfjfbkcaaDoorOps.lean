/-
  The rules for single operations.
-/
import Derived.Test.YtelpkhhfjfbkcaaDoorEnv
set_option linter.unusedSimpArgs false
set_option linter.unusedVariables false
set_option linter.unnecessarySimpa false
namespace Go.Esp

/-! ### Values of many cells -/

/-- A part of a struct or an array: one cell, or an array of cells. -/
inductive Seg where
  | one (v : Value)
  | arr (n : Nat) (f : Vector Value n)

def Seg.len : Seg → Nat
  | .one _ => 1
  | .arr n _ => n

def Seg.cells : Seg → List Value
  | .one v => [v]
  | .arr _ f => f.toList

theorem Seg.cells_length (s : Seg) : s.cells.length = s.len := by cases s <;> simp [Seg.cells, Seg.len]

abbrev Segs := List Seg

def Segs.len : Segs → Nat
  | [] => 0
  | s :: r => s.len + Segs.len r

def Segs.cells : Segs → List Value
  | [] => []
  | s :: r => s.cells ++ Segs.cells r

theorem Segs.cells_length : ∀ r : Segs, (Segs.cells r).length = Segs.len r
  | [] => rfl
  | s :: r => by simp [Segs.cells, Segs.len, Segs.cells_length r, Seg.cells_length]

theorem Segs.cells_append : ∀ r s : Segs, Segs.cells (r ++ s) = Segs.cells r ++ Segs.cells s
  | [], s => rfl
  | x :: r, s => by simp [Segs.cells, Segs.cells_append r s]

theorem Segs.len_append : ∀ r s : Segs, Segs.len (r ++ s) = Segs.len r + Segs.len s
  | [], s => by simp [Segs.len]
  | x :: r, s => by simp [Segs.len, Segs.len_append r s]; omega

/-- The first n cells, where they end with a part. -/
def Segs.take : Segs → Nat → Option Segs
  | _, 0 => some []
  | [], _ + 1 => none
  | s :: r, n + 1 => match Nat.ble s.len (n + 1), s.len with
    | true, k + 1 => match Segs.take r (n + 1 - (k + 1)) with
      | some t => some (s :: t)
      | none => none
    | _, _ => none

def Segs.drop : Segs → Nat → Option Segs
  | r, 0 => some r
  | [], _ + 1 => none
  | s :: r, n + 1 => match Nat.ble s.len (n + 1), s.len with
    | true, k + 1 => Segs.drop r (n + 1 - (k + 1))
    | _, _ => none

def Segs.sub (r : Segs) (off n : Nat) : Option Segs := match r.drop off with
  | some t => t.take n
  | none => none

theorem Segs.take_spec : ∀ {r t : Segs} {n : Nat}, Segs.take r n = some t → ∃ u, r = t ++ u ∧ Segs.len t = n
  | r, t, 0, h => by
    have e : t = [] := by cases r <;> simp_all [Segs.take]
    subst e; exact ⟨r, rfl, rfl⟩
  | [], t, n + 1, h => by simp [Segs.take] at h
  | s :: r, t, n + 1, h => by
    unfold Segs.take at h
    split at h
    · rename_i k hb hk
      split at h
      · rename_i t' ht'
        obtain rfl := Option.some.inj h
        obtain ⟨u, hu, hl⟩ := Segs.take_spec ht'
        have := Nat.le_of_ble_eq_true hb
        exact ⟨u, by simp [← hu], by simp [Segs.len, hl]; omega⟩
      · cases h
    · cases h

theorem Segs.drop_spec : ∀ {r t : Segs} {n : Nat}, Segs.drop r n = some t → ∃ u, r = u ++ t ∧ Segs.len u = n
  | r, t, 0, h => by
    have e : t = r := by cases r <;> simp_all [Segs.drop]
    subst e; exact ⟨[], rfl, rfl⟩
  | [], t, n + 1, h => by simp [Segs.drop] at h
  | s :: r, t, n + 1, h => by
    unfold Segs.drop at h
    split at h
    · rename_i k hb hk
      obtain ⟨u, hu, hl⟩ := Segs.drop_spec h
      have := Nat.le_of_ble_eq_true hb
      exact ⟨s :: u, by simp [hu], by simp [Segs.len, hl]; omega⟩
    · cases h

theorem Segs.sub_spec {r t : Segs} {off n : Nat} (h : Segs.sub r off n = some t) : ∃ p q, r = p ++ (t ++ q) ∧ Segs.len p = off ∧ Segs.len t = n := by
  unfold Segs.sub at h
  split at h
  · rename_i t' ht'
    obtain ⟨p, hp, hpl⟩ := Segs.drop_spec ht'
    obtain ⟨q, hq, hql⟩ := Segs.take_spec h
    exact ⟨p, q, by rw [hp, hq], hpl, hql⟩
  · cases h

theorem Segs.sub_cells {r t : Segs} {off n : Nat} (h : Segs.sub r off n = some t) : ((Segs.cells r).drop off).take n = Segs.cells t ∧ off + n ≤ Segs.len r := by
  obtain ⟨p, q, rfl, rfl, rfl⟩ := Segs.sub_spec h
  rw [Segs.cells_append, Segs.cells_append, ← Segs.cells_length p, ← Segs.cells_length t]
  constructor
  · simp
  · simp [Segs.len_append, Segs.cells_length]

/-- r with the cells from off on, as many as t has, turned to t. -/
def Segs.put : Segs → Nat → Segs → Option Segs
  | r, 0, t => match Segs.drop r (Segs.len t) with
    | some u => some (t ++ u)
    | none => none
  | [], _ + 1, _ => none
  | s :: r, n + 1, t => match Nat.ble s.len (n + 1), s.len with
    | true, k + 1 => match Segs.put r (n + 1 - (k + 1)) t with
      | some u => some (s :: u)
      | none => none
    | _, _ => none

theorem Segs.put_spec : ∀ {r t u : Segs} {off : Nat}, Segs.put r off t = some u → ∃ p q m, r = p ++ (m ++ q) ∧ u = p ++ (t ++ q) ∧ Segs.len p = off ∧ Segs.len m = Segs.len t
  | r, t, u, 0, h => by
    have h' : (match Segs.drop r (Segs.len t) with | some u => some (t ++ u) | none => none) = some u := by
      cases r <;> simpa [Segs.put] using h
    split at h'
    · rename_i q hq
      obtain rfl := Option.some.inj h'
      obtain ⟨m, hm, hl⟩ := Segs.drop_spec hq
      exact ⟨[], q, m, by simpa using hm, rfl, rfl, hl⟩
    · cases h'
  | [], t, u, n + 1, h => by simp [Segs.put] at h
  | s :: r, t, u, n + 1, h => by
    unfold Segs.put at h
    split at h
    · rename_i k hb hk
      split at h
      · rename_i u' hu'
        obtain rfl := Option.some.inj h
        obtain ⟨p, q, m, e1, e2, e3, e4⟩ := Segs.put_spec hu'
        have := Nat.le_of_ble_eq_true hb
        exact ⟨s :: p, q, m, by simp [e1], by simp [e2], by simp [Segs.len, e3]; omega, e4⟩
      · cases h
    · cases h

/-- A struct's or an array's value. -/
def aggV (r : Segs) : Value := .agg (Segs.cells r).toArray

/-- What a value is as parts. -/
inductive Parts : Value → Segs → Prop
  | agg (r : Segs) : Parts (aggV r) r
  | bool (b : Bool) : Parts (.bool b) [.one (.bool b)]
  | int (k : IntKind) (n : Int) : Parts (.int k n) [.one (.int k n)]
  | string (s : ByteArray) : Parts (.string s) [.one (.string s)]
  | pointer (a : Option Addr) : Parts (.pointer a) [.one (.pointer a)]
  | slice (a : Option Addr) (l c : Nat) : Parts (.slice a l c) [.one (.slice a l c)]
  | map (r : Option Nat) : Parts (.map r) [.one (.map r)]
  | func (fn : Go.Fn) (f c : Array Value) : Parts (.func fn f c) [.one (.func fn f c)]
  | nilFunc : Parts .nilFunc [.one .nilFunc]
  | iface (t : TypeId) (v : Value) : Parts (.iface t v) [.one (.iface t v)]
  | nilIface : Parts .nilIface [.one .nilIface]

theorem Parts.cells {v : Value} {r : Segs} (h : Parts v r) : v.cells = (Segs.cells r).toArray := by cases h <;> rfl

/-- No cell of it is a struct or an array. -/
def flat (r : Segs) : Prop := ∀ u ∈ Segs.cells r, u.oneCell' = true

/-- What is read as a value of a type: one part alone, or many as a struct. -/
def readAs (agg : Bool) (r : Segs) : Option Value := match agg, r with
  | true, r => some (aggV r)
  | false, [.one v] => some v
  | _, _ => none

def aggD : TypeDesc → Bool
  | .struct _ => true
  | .array _ _ => true
  | _ => false

/-- Of a type: is it a struct or an array, and how many cells has it? -/
def lay (P : Program) (t : TypeId) : Option (Bool × Nat) := match P.underlying t, P.info? t with
  | some d, some i => some ((aggD d), i.size)
  | _, _ => none

/-- A field's place, where it has cells. -/
def foff (P : Program) (s : TypeId) (f : Nat) : Option Nat := match P.underlying s with
  | some (.struct fs) => match fs[f]? with
    | some fd => match P.info? fd.type with
      | some i => if i.size = 0 then none else some fd.offset
      | none => none
    | none => none
  | _ => none

/-- A slice's element, and its cells and bytes. -/
def slOf (P : Program) (t : TypeId) : Option (TypeId × Nat × Nat) := match P.underlying t with
  | some (.slice el) => match P.info? el with
    | some i => some (el, i.size, i.bytes)
    | none => none
  | _ => none

def zeroOf (P : Program) (t : TypeId) : Option Value := match P.info? t with
  | some i => i.zero
  | none => none

theorem foff_spec {P : Program} {s f off : Nat} (h : foff P s f = some off) : ∃ fs fd i, P.underlying s = some (.struct fs) ∧ fs[f]? = some fd ∧ P.info? fd.type = some i ∧ i.size ≠ 0 ∧ fd.offset = off := by
  unfold foff at h
  split at h
  · rename_i fs hs
    split at h
    · rename_i fd hf
      split at h
      · rename_i i hi
        split at h
        · cases h
        · exact ⟨fs, fd, i, hs, hf, hi, by assumption, Option.some.inj h⟩
      · cases h
    · cases h
  · cases h

theorem lay_spec {P : Program} {t : TypeId} {b : Bool} {n : Nat} (h : lay P t = some (b, n)) : ∃ d i, P.underlying t = some d ∧ P.info? t = some i ∧ i.size = n ∧ (aggD d) = b := by
  unfold lay at h
  split at h
  · rename_i d i hd hi
    simp only [Option.some.injEq, Prod.mk.injEq] at h
    exact ⟨d, i, hd, hi, h.2, h.1⟩
  · cases h

theorem elemOf_spec {P : Program} {t el sz by_ : Nat} (h : slOf P t = some (el, sz, by_)) : ∃ i, P.underlying t = some (.slice el) ∧ P.info? el = some i ∧ i.size = sz ∧ i.bytes = by_ := by
  unfold slOf at h
  split at h
  · rename_i e2 hd
    split at h
    · rename_i i hi
      simp only [Option.some.injEq, Prod.mk.injEq] at h
      obtain ⟨rfl, rfl, rfl⟩ := h
      exact ⟨i, hd, hi, rfl, rfl⟩
    · cases h
  · cases h

section sem
variable {P : Program} {w : World}

theorem run_bind_ok {α β : Type} {x : Sem α} {f : α → Sem β} {a : α} {w w' : World} (h : x.run P w = .ok a w') : (x >>= f).run P w = (f a).run P w' := by
  rw [Sem.run_bind, h]; rfl

theorem run_underlying' {t : TypeId} {d : TypeDesc} (h : P.underlying t = some d) : (underlying t).run P w = .ok d w := by
  simp [Go.underlying, h]

theorem run_sizeOf' {t : TypeId} {i : TypeInfo} (h : P.info? t = some i) : (sizeOf t).run P w = .ok i.size w := by
  simp [Go.sizeOf, Go.typeInfo, h]

theorem run_isAgg {t : TypeId} {d : TypeDesc} (h : P.underlying t = some d) : (isAgg t).run P w = .ok (aggD d) w := by
  unfold Go.isAgg
  rw [Sem.run_bind, run_underlying' h, Result.andThen_ok]
  cases d <;> rfl

theorem cell_of_row {b off : Nat} {c : Array Value} {T : TypeId} {fz : Nat × Nat} (hb : w.heap[b]? = some (.cells c T fz)) : w.cell? ⟨b, off, none⟩ = c[off]? := by
  simp [World.cell?, hb]

theorem run_loadVar' {b off n : Nat} {agg : Bool} {c : Array Value} {T t : TypeId} {fz : Nat × Nat} {r : Segs} {v : Value} (hb : w.heap[b]? = some (.cells c T fz)) (hl : lay P t = some (agg, n))
    (hx : (c.toList.drop off).take n = Segs.cells r) (hn : Segs.len r = n) (hr : readAs agg r = some v) : (loadVar t ⟨b, off, none⟩).run P w = .ok v w := by
  obtain ⟨d, i, hd, hi, hsz, hag⟩ := lay_spec hl
  have hlen : (Segs.cells r).length = n := by rw [Segs.cells_length, hn]
  have hcell : ∀ j v, (Segs.cells r)[j]? = some v → w.cell? ((⟨b, off, none⟩ : Addr).add j) = some v := by
    intro j v hj
    rw [Addr.add_lit, cell_of_row hb]
    rw [← hx, List.getElem?_take, List.getElem?_drop] at hj
    split at hj
    · simpa using hj
    · cases hj
  unfold loadVar
  rw [Sem.run_bind, run_isAgg hd, Result.andThen_ok, hag]
  cases agg with
  | true =>
    simp only [readAs, Option.some.injEq] at hr
    subst hr
    simp only [if_true]
    rw [Sem.run_bind, run_sizeOf' hi, Result.andThen_ok, Sem.run_bind, hsz, ← hlen, run_loadCells_list w _ _ hcell, Result.andThen_ok]
    rfl
  | false =>
    simp only [Bool.false_eq_true, if_false]
    unfold readAs at hr
    split at hr
    · rename_i h1; cases h1
    · rename_i u h1
      obtain rfl := Option.some.inj hr
      have := hcell 0 u (by simp [Segs.cells, Seg.cells])
      rw [Addr.add_lit, Nat.add_zero] at this
      rw [run_load, this]
    · cases hr

theorem run_loadAt' {b off n : Nat} {agg : Bool} {c : Array Value} {T t : TypeId} {fz : Nat × Nat} {r : Segs} {v : Value} (hb : w.heap[b]? = some (.cells c T fz)) (hl : lay P t = some (agg, n))
    (hx : (c.toList.drop off).take n = Segs.cells r) (hn : Segs.len r = n) (hr : readAs agg r = some v) : (Instr.loadAt t (.pointer (some ⟨b, off, none⟩))).run P w = .ok v w := by
  unfold Instr.loadAt
  rw [Sem.run_bind]
  show (Result.ok _ w).andThen _ = _
  rw [Result.andThen_ok]
  exact run_loadVar' hb hl hx hn hr

/-- A row's object. -/
def rowO (r : Segs) (T : TypeId) : Obj := .cells (Segs.cells r).toArray T (0, 0)

theorem flat_append {r s : Segs} (hr : flat r) (hs : flat s) : flat (r ++ s) := fun u hu => by
  rw [Segs.cells_append] at hu
  rcases List.mem_append.1 hu with h | h
  · exact hr u h
  · exact hs u h

theorem put_cells {r t u : Segs} {off : Nat} (h : Segs.put r off t = some u) :
    Segs.cells u = (Segs.cells r).take off ++ Segs.cells t ++ (Segs.cells r).drop (off + Segs.len t) ∧ off + Segs.len t ≤ Segs.len r := by
  obtain ⟨p, q, m, rfl, rfl, rfl, hm⟩ := Segs.put_spec h
  simp only [Segs.cells_append, Segs.len_append]
  constructor
  · rw [← hm, ← Segs.cells_length p, ← Segs.cells_length m]
    simp [List.drop_append]
  · omega

/-- A store into a row of ours. -/
theorem run_storeAt' {b off : Nat} {agg : Bool} {T t : TypeId} {r q u : Segs} {v : Value} {n : Nat} (hb : w.heap[b]? = some (rowO r T)) (hl : lay P t = some (agg, n))
    (hp : Parts v q) (hq : flat q) (hn : Segs.len q = n) (hu : Segs.put r off q = some u) :
    ∃ w', (Instr.storeAt t (.pointer (some ⟨b, off, none⟩)) v).run P w = .ok () w' ∧ w'.heap[b]? = some (rowO u T) ∧ (∀ c, c ≠ b → w'.heap[c]? = w.heap[c]?) ∧ SameIO w w' := by
  obtain ⟨d, i, hd, hi, hsz, hag⟩ := lay_spec hl
  obtain ⟨e1, e2⟩ := put_cells hu
  have hfit : off + 0 + (Segs.cells q).length ≤ (Segs.cells r).toArray.size := by simp [Segs.cells_length]; omega
  have hst := run_storeCells_at P b off T (Segs.cells q) 0 (Segs.cells r).toArray w hb hfit hq
  refine ⟨w.setRow b (Segs.cells u).toArray, ?_, setRow_heap w b _ _ T _ hb, fun c hc => setRow_other w b c _ hc, SameIO.refl _⟩
  · unfold Instr.storeAt
    rw [Sem.run_bind]
    show (Result.ok _ w).andThen _ = _
    rw [Result.andThen_ok]
    unfold storeVar
    rw [Sem.run_bind, run_sizeOf' hi, Result.andThen_ok]
    have hs : v.cells.size = i.size := by rw [hp.cells, hsz]; simp [Segs.cells_length, hn]
    simp only [hs, ne_eq, not_true_eq_false, if_false]
    rw [hp.cells]
    simp only [e1]
    simpa [Segs.cells_length] using hst

end sem
end Go.Esp
