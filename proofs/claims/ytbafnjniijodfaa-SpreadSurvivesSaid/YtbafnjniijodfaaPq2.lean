/-
  Texts of this claim, one behind the other: Rules4, Api, Arr, Rules5, Short, Types, Opn, Seat, Ident, CircleM, IdentN, T1, Rules6, Rules7, CircleN, RingB, CircL, Rules8, T2, IdxF, CellM, Rules10.
-/
import Derived.Test.YtbafnjniijodfaaPq1
import Derived.Test.YtbafnjniijodfaaRows
import Derived.LaidHandle
import Derived.LaidLaws
import Derived.ChangeVars
import Derived.Stop.Joined
import Derived.Laws.Sem
import Derived.Laws.MakeOwn
import Derived.Scope
import Derived.Lib.AppendZeros
import Derived.Lib.AppendZerosOnto
import Derived.Lib.Overlaps
/-
  Slices that may be read, wherever they lie.
-/
set_option linter.unusedSimpArgs false
set_option linter.unusedVariables false
set_option linter.unnecessarySimpa false
namespace Go.Esp

theorem Rem.two {A B H : Hp} : Rem (A ++ B) (A ++ (B ++ H)) H := by
  rw [← List.append_assoc]; exact Rem.here H

/-- A slice that may be read. -/
structure RdS (M : Mem) (H : Hp) (a : Option Addr) (rows : List Segs) (sz : Nat) : Prop where
  lens : Esp.lens sz rows
  there : rows ≠ [] → ∃ b off, a = some ⟨b, off, none⟩ ∧ ∀ w, St M H w → ∃ c T fz, w.heap[b]? = some (.cells c T fz) ∧ (c.toList.drop off).take (rows.length * sz) = rowsCells rows

theorem SlM.rd {M : Mem} {a : Option Addr} {rows : List Segs} {sz : Nat} (h : SlM M a rows sz) (H : Hp) : RdS M H a rows sz :=
  ⟨h.lens, fun hn => let ⟨b, off, c, T, fz, h1, h2, h3⟩ := h.there hn; ⟨b, off, h1, fun w hw => ⟨c, T, fz, hw.mem b _ h2, h3⟩⟩⟩

theorem RdS.app {M : Mem} {H : Hp} {a : Option Addr} {rows : List Segs} {sz : Nat} (h : RdS M H a rows sz) (H' : Hp) : RdS M (H ++ H') a rows sz :=
  ⟨h.lens, fun hn => let ⟨b, off, h1, h2⟩ := h.there hn; ⟨b, off, h1, fun w hw => h2 w (hw.cnt (fun x => by rw [cnt_app]; omega))⟩⟩

theorem RdS.cnt {M : Mem} {H H' : Hp} {a : Option Addr} {rows : List Segs} {sz : Nat} (h : RdS M H a rows sz) (hc : ∀ x, Esp.cnt x H ≤ Esp.cnt x H') : RdS M H' a rows sz :=
  ⟨h.lens, fun hn => let ⟨b, off, h1, h2⟩ := h.there hn; ⟨b, off, h1, fun w hw => h2 w (hw.cnt hc)⟩⟩

theorem RdS.mono {M M' : Mem} {H : Hp} {a : Option Addr} {rows : List Segs} {sz : Nat} (h : RdS M H a rows sz) (hm : M.le M') : RdS M' H a rows sz :=
  ⟨h.lens, fun hn => let ⟨b, off, h1, h2⟩ := h.there hn; ⟨b, off, h1, fun w hw => h2 w (hw.lower hm)⟩⟩

theorem OSl.rd {T sz l c : Nat} {a : Option Addr} {hs : Hp} {rows : List Segs} (h : OSl T sz (.slice a l c) hs rows) (M : Mem) : RdS M hs a rows sz := by
  refine ⟨h.lens, fun hn => ?_⟩
  obtain ⟨b, rfl⟩ := h.addr (List.length_pos_iff.2 hn)
  obtain ⟨cur, rfl, _, h1, h2, h3, h4, h5⟩ := h.inv
  exact ⟨b, 0, rfl, fun w hw => ⟨cur, T, (0, 0), hw.own b _ (.head _), by simpa using h5⟩⟩

theorem RdS.plain {M : Mem} {H : Hp} {a : Option Addr} {rows : List Segs} {sz : Nat} (h : RdS M H a rows sz) (hn : 0 < rows.length) : Plain a := by
  obtain ⟨b, off, h1, _⟩ := h.there (List.length_pos_iff.1 hn)
  exact ⟨b, off, h1⟩

section
variable {P : Program} {n : Sh} {ops : Array Oper} {Q : Exit → Act → World → Prop} {rest : List Nat} {M M' : Mem} {H H' H0 : Hp} {e : Env} {J S : World → Prop} {A : As} {i : Nat}
  {dst : Option Tmp} {d : Tmp} {op : Op} {ty : TypeId} {pos : String} {af : Array Edge} {gd : Option (Nat × Bool)}

theorem X_load_rd {t : TypeId} {x : Operand} {j sz off m : Nat} {a : Option Addr} {agg : Bool} {rows : List Segs} {r r' : Segs} {v : Value} {MJ : Mem} {HJ : Hp} (hi : ops[i]? = some ⟨some d, .load t x, ty, pos, af, gd⟩) (hg : want ops e gd = some true)
    (hx : ev e x = some (eptr a j sz off)) (hsl : RdS MJ HJ a rows sz) (hr : rows[j]? = some r) (hl : lay P t = some (agg, m)) (hs : Segs.sub r off m = some r') (hv : readAs agg r' = some v)
    (hd : Nat.ble (d + 1) n.sz = true) (hk : XD P n ops Q rest (St MJ HJ) A ((d, v) :: e)) : XD P n ops Q (i :: rest) (St MJ HJ) A e :=
  X_read hi rfl hg (fun a' w ha hw => runs_of (by
    simp only [execOp, ha.ev hx]
    have hlt := (List.getElem?_eq_some_iff.1 hr).1
    obtain ⟨b, o, rfl, h2⟩ := hsl.there (fun e => by rw [e] at hlt; cases hlt)
    obtain ⟨c, T, fz, h3, h4⟩ := h2 w hw
    rw [eptr_some]
    obtain ⟨h5, h6⟩ := Segs.sub_cells hs
    obtain ⟨_, _, _, _, h7⟩ := Segs.sub_spec hs
    refine run_v (run_loadAt' h3 hl ?_ h7 hv)
    have hlr := hsl.lens r (List.mem_of_getElem? hr)
    rw [← h5, ← rowsCells_at hsl.lens hr, ← h4]
    simp only [List.drop_take, List.take_take, List.drop_drop]
    rw [show o + (j * sz + off) = o + (j * sz + off) by rfl, show o + j * sz + off = o + (j * sz + off) by omega]
    congr 1
    have : (j + 1) * sz ≤ rows.length * sz := Nat.mul_le_mul_right _ hlt
    rw [Nat.add_mul] at this
    omega)) (fun a ha => ha.put hd _) hk

theorem Fh.imp {f : FuncId} {vs : List Value} {Hin : Hp} {R R' : Mem → Value → Hp → Prop} (h : Fh P f vs M Hin R) (hr : ∀ M v H, R M v H → R' M v H) : Fh P f vs M Hin R' := fun H w hw =>
  (h H w hw).mono fun e w' ⟨v, M', Hout, he, hm, hs, h1⟩ => ⟨v, M', Hout, he, hm, hs, hr _ _ _ h1⟩

theorem Fo.frame {f : FuncId} {vs : List Value} {Hin : Hp} {R : Mem → Value → Prop} (h : Fo P f vs M Hin R) (E : Hp) : Fo P f vs M (Hin ++ E) R := fun H w hw => by
  have := h (E ++ H) w (by rw [← List.append_assoc]; exact hw)
  rw [List.append_assoc]
  exact this
theorem Fo.perm {f : FuncId} {vs : List Value} {Hin Hin2 : Hp} {R : Mem → Value → Prop} (h : Fo P f vs M Hin R) (hp : Hin.Perm Hin2) : Fo P f vs M Hin2 R := fun H w hw =>
  (h H w (hw.perm0 (hp.symm.append_right H))).mono fun e w' ⟨v, M', he, hm, hs, h1⟩ => ⟨v, M', he, hm, hs.perm0 (hp.append_right H), h1⟩
theorem Fo.imp {f : FuncId} {vs : List Value} {Hin : Hp} {R R' : Mem → Value → Prop} (h : Fo P f vs M Hin R) (hr : ∀ M v, R M v → R' M v) : Fo P f vs M Hin R' := fun H w hw =>
  (h H w hw).mono fun e w' ⟨v, M', he, hm, hs, h1⟩ => ⟨v, M', he, hm, hs, hr _ _ h1⟩
end
end Go.Esp
/-
  Places on the ring as numbers below 2^160; slices with their address; arrays of small numbers, cell by cell.
-/
set_option linter.unusedSimpArgs false
set_option linter.unusedVariables false
set_option linter.unnecessarySimpa false
namespace Go.Esp

/-- A place on the ring. -/
abbrev Plc := BitVec 160

/-- The i-th byte, the highest one first. -/
def idB (x : Plc) (i : Nat) : Nat := x.toNat / 256 ^ (19 - i) % 256
/-- Its cells from the i-th on. (By a measure, so that nothing looks into it by itself.) -/
def idL (x : Plc) (i : Nat) : List Value := if i < 20 then .int .u8 (idB x i) :: idL x (i + 1) else []
termination_by 20 - i

theorem idL_eq (x : Plc) : ∀ (m i : Nat), i + m = 20 → idL x i = (List.range' i m).map fun i => Value.int .u8 (idB x i)
  | 0, i, h => by rw [idL, if_neg (by omega)]; rfl
  | m + 1, i, h => by rw [idL, if_pos (by omega), idL_eq x m (i + 1) (by omega), List.range'_succ]; rfl

theorem idL_len (x : Plc) : (idL x 0).toArray.size = 20 := by rw [idL_eq x 20 0 rfl]; simp

def idV (x : Plc) : Vector Value 20 := ⟨(idL x 0).toArray, idL_len x⟩
def idSeg (x : Plc) : Seg := .arr 20 (idV x)

theorem idV_list (x : Plc) : (idV x).toList = (List.range 20).map fun i => Value.int .u8 (idB x i) := by
  show idL x 0 = _
  rw [idL_eq x 20 0 rfl, List.range_eq_range']

theorem idB_lt (x : Plc) (i : Nat) : idB x i < 256 := Nat.mod_lt _ (by decide)

theorem idV_get (x : Plc) {i : Nat} (h : i < 20) : (idV x)[i] = .int .u8 (idB x i) := by
  have e : (idV x).toList[i]'(by simpa using h) = .int .u8 (idB x i) := by
    simp only [idV_list]
    simp
  simpa using e

theorem idSeg0 : idSeg 0 = .arr 20 (Vector.replicate 20 (.int .u8 0)) := by
  unfold idSeg
  congr 1
  apply Vector.ext
  intro i hi
  rw [idV_get _ hi, Vector.getElem_replicate]
  simp [idB]

/-- The number of bytes, the highest one first. -/
def ofB : Nat → (Nat → Nat) → Nat
  | 0, _ => 0
  | n + 1, f => 256 * ofB n f + f n

theorem ofB_congr {f g : Nat → Nat} : ∀ {n : Nat}, (∀ i, i < n → f i = g i) → ofB n f = ofB n g
  | 0, _ => rfl
  | n + 1, h => by simp only [ofB, ofB_congr (fun i hi => h i (Nat.lt_succ_of_lt hi)), h n (Nat.lt_succ_self n)]

theorem ofB_lt {f : Nat → Nat} (hf : ∀ i, f i < 256) : ∀ n, ofB n f < 256 ^ n
  | 0 => by simp [ofB]
  | n + 1 => by
    have := ofB_lt hf n
    have := hf n
    rw [Nat.pow_succ]
    simp only [ofB]
    omega

theorem ofB_div (x : Nat) : ∀ n k, ofB n (fun i => x / 256 ^ (n - 1 - i + k) % 256) = x / 256 ^ k % 256 ^ n
  | 0, k => by simp [ofB, Nat.mod_one]
  | n + 1, k => by
    have e : ofB n (fun i => x / 256 ^ (n + 1 - 1 - i + k) % 256) = ofB n (fun i => x / 256 ^ (n - 1 - i + (k + 1)) % 256) :=
      ofB_congr fun i hi => by rw [show n + 1 - 1 - i + k = n - 1 - i + (k + 1) by omega]
    simp only [ofB]
    rw [e, ofB_div x n (k + 1), show n + 1 - 1 - n + k = k by omega, Nat.pow_succ 256 n, Nat.mul_comm (256 ^ n) 256, Nat.mod_mul, Nat.pow_succ 256 k, Nat.div_div_eq_div_mul]
    omega

theorem idB_toNat (x : Plc) : ofB 20 (idB x) = x.toNat := by
  have := ofB_div x.toNat 20 0
  have h : x.toNat < 256 ^ 20 := x.isLt
  rw [Nat.pow_zero, Nat.div_one, Nat.mod_eq_of_lt h] at this
  rw [← this]
  exact ofB_congr fun i hi => by unfold idB; rw [show 20 - 1 - i + 0 = 19 - i by omega]

/-- The place of twenty bytes. -/
def ofBytes (f : Nat → Nat) : Plc := BitVec.ofNat 160 (ofB 20 f)

theorem ofB_byte {f : Nat → Nat} (hf : ∀ i, f i < 256) : ∀ (n i : Nat), i < n → ofB n f / 256 ^ (n - 1 - i) % 256 = f i
  | 0, i, h => by omega
  | n + 1, i, h => by
    rcases Nat.lt_or_ge i n with hi | hi
    · have ih := ofB_byte hf n i hi
      rw [← ih, show n + 1 - 1 - i = (n - 1 - i) + 1 by omega, Nat.pow_succ, Nat.mul_comm (256 ^ _) 256, ← Nat.div_div_eq_div_mul]
      have := hf n
      simp only [ofB]
      rw [show (256 * ofB n f + f n) / 256 = ofB n f by omega]
    · obtain rfl : i = n := by omega
      have := hf i
      simp only [ofB, Nat.add_sub_cancel, Nat.sub_self, Nat.pow_zero, Nat.div_one]
      omega

theorem idB_ofBytes {f : Nat → Nat} (hf : ∀ i, f i < 256) {i : Nat} (h : i < 20) : idB (ofBytes f) i = f i := by
  unfold idB ofBytes
  rw [BitVec.toNat_ofNat, Nat.mod_eq_of_lt (ofB_lt hf 20), show 19 - i = 20 - 1 - i by omega]
  exact ofB_byte hf 20 i h

theorem idV_inj {x y : Plc} : idV x = idV y ↔ x = y := by
  constructor
  · intro h
    apply BitVec.eq_of_toNat_eq
    rw [← idB_toNat x, ← idB_toNat y]
    refine ofB_congr fun i hi => ?_
    have e : (idV x)[i] = (idV y)[i] := by rw [h]
    rw [idV_get x hi, idV_get y hi] at e
    have := (Value.int.inj e).2
    omega
  · rintro rfl; rfl

theorem idList_inj {x y : Plc} : (idV x).toList = (idV y).toList ↔ x = y := by
  rw [← idV_inj, Vector.toList_inj]

theorem id_app {x y : Plc} {r s : List Value} : (idV x).toList ++ r = (idV y).toList ++ s ↔ x = y ∧ r = s := by
  constructor
  · intro h
    have := List.append_inj h (by simp)
    exact ⟨idList_inj.1 this.1, this.2⟩
  · rintro ⟨rfl, rfl⟩; rfl

/-- Twenty bytes that are read. -/
theorem idV_of {v : Vector Value 20} (h : ∀ i (h : i < 20), ∃ z, v[i] = .int .u8 z ∧ (Lit.int .u8 z).wf = true) : ∃ x : Plc, v = idV x := by
  have h' : ∀ i, ∃ z : Nat, z < 256 ∧ ∀ h : i < 20, v[i] = .int .u8 z := by
    intro i
    by_cases hi : i < 20
    · obtain ⟨z, h1, h2⟩ := h i hi
      have h3 : 0 ≤ z ∧ z < 256 := by
        simp only [Lit.wf, Bool.and_eq_true, decide_eq_true_eq] at h2
        have e1 : IntKind.min .u8 = 0 := by decide
        have e2 : IntKind.max .u8 = 255 := by decide
        omega
      refine ⟨z.toNat, by omega, fun _ => ?_⟩
      rw [h1, Int.toNat_of_nonneg h3.1]
    · exact ⟨0, by decide, fun h => (hi h).elim⟩
  refine ⟨ofBytes fun i => (h' i).choose, ?_⟩
  apply Vector.ext
  intro i hi
  rw [idV_get _ hi, idB_ofBytes (fun i => (h' i).choose_spec.1) hi]
  exact (h' i).choose_spec.2 hi

theorem idFits {ks : List Kd} {vs : List Value} (x : Plc) (h : Fits ks vs) :
    Fits (.i .u8 :: .i .u8 :: .i .u8 :: .i .u8 :: .i .u8 :: .i .u8 :: .i .u8 :: .i .u8 :: .i .u8 :: .i .u8 :: .i .u8 :: .i .u8 :: .i .u8 :: .i .u8 :: .i .u8 :: .i .u8 :: .i .u8 :: .i .u8 :: .i .u8 :: .i .u8 :: ks) ((idV x).toList ++ vs) := by
  rw [idV_list]
  exact ⟨rfl, rfl, rfl, rfl, rfl, rfl, rfl, rfl, rfl, rfl, rfl, rfl, rfl, rfl, rfl, rfl, rfl, rfl, rfl, rfl, h⟩

theorem id_oneCell {x : Plc} {u : Value} (h : u ∈ (idV x).toList) : u.oneCell' = true := by
  rw [idV_list] at h
  obtain ⟨i, _, rfl⟩ := List.mem_map.1 h
  rfl

/-- A slice's elements, and where they lie. -/
structure Sl (α : Type) where
  a : Option Addr
  cap : Nat
  l : List α

def Sl.val {α : Type} : Sl α → Value
  | ⟨a, c, l⟩ => .slice a l.length c
theorem Sl.val_eq {α : Type} (s : Sl α) : s.val = .slice s.a s.l.length s.cap := rfl
theorem Sl.one {α : Type} (s : Sl α) : s.val.oneCell' = true := rfl
/-- What a slice that is handed in, or on, is like: f: an element's parts. -/
structure SlK {α : Type} (M : Mem) (f : α → Segs) (sz : Nat) (s : Sl α) : Prop where
  mk' ::
  h1 : SlM M s.a (s.l.map f) sz
  h2 : s.l.length ≤ maxLen
  h3 : s.l.length ≤ s.cap
theorem SlK.mono {α : Type} {M M' : Mem} {f : α → Segs} {sz : Nat} {s : Sl α} (h : SlK M f sz s) (hm : M.le M') : SlK M' f sz s := ⟨h.h1.mono hm, h.h2, h.h3⟩
theorem SlK.nil {α : Type} {M : Mem} {f : α → Segs} {sz : Nat} : SlK M f sz (⟨none, 0, []⟩ : Sl α) := ⟨SlM.nil _ _ _, Nat.zero_le _, Nat.le_refl _⟩
def oneI (k : IntKind) (z : Int) : Segs := [.one (.int k z)]
def oneS (s : ByteArray) : Segs := [.one (.string s)]

theorem flat_nil : flat [] := fun u hu => by cases hu
theorem flat_one {v : Value} {r : Segs} (h : v.oneCell' = true) (hr : flat r) : flat (.one v :: r) := fun u hu => by
  rcases List.mem_cons.1 (show u ∈ v :: Segs.cells r from hu) with rfl | hu
  · exact h
  · exact hr u hu
theorem flat_id {x : Plc} {r : Segs} (hr : flat r) : flat (idSeg x :: r) := fun u hu => by
  rcases List.mem_append.1 (show u ∈ (idV x).toList ++ Segs.cells r from hu) with hu | hu
  · exact id_oneCell hu
  · exact hr u hu

theorem cells_one {u v : Value} {r s : Segs} : Segs.cells (.one u :: r) = Segs.cells (.one v :: s) ↔ u = v ∧ Segs.cells r = Segs.cells s := by
  show u :: Segs.cells r = v :: Segs.cells s ↔ _
  exact List.cons_eq_cons
theorem cells_id {x y : Plc} {r s : Segs} : Segs.cells (idSeg x :: r) = Segs.cells (idSeg y :: s) ↔ x = y ∧ Segs.cells r = Segs.cells s := by
  show (idV x).toList ++ Segs.cells r = (idV y).toList ++ Segs.cells s ↔ _
  exact id_app
theorem cells_id1 {x y : Plc} : Segs.cells [idSeg x] = Segs.cells [idSeg y] ↔ x = y := by rw [cells_id]; simp
theorem fit_nil : Fits [] (Segs.cells []) := trivial
theorem fit_one {k : Kd} {v : Value} {ks : List Kd} {r : Segs} (h : Fit k v) (hr : Fits ks (Segs.cells r)) : Fits (k :: ks) (Segs.cells (.one v :: r)) := ⟨h, hr⟩
theorem fit_id {x : Plc} {ks : List Kd} {r : Segs} (hr : Fits ks (Segs.cells r)) :
    Fits (.i .u8 :: .i .u8 :: .i .u8 :: .i .u8 :: .i .u8 :: .i .u8 :: .i .u8 :: .i .u8 :: .i .u8 :: .i .u8 :: .i .u8 :: .i .u8 :: .i .u8 :: .i .u8 :: .i .u8 :: .i .u8 :: .i .u8 :: .i .u8 :: .i .u8 :: .i .u8 :: ks) (Segs.cells (idSeg x :: r)) := idFits x hr

theorem eqD {c : Bool} {p q : Prop} [Decidable q] (h : c = true ↔ p) (h2 : p ↔ q) : c = decide q := by
  by_cases hq : q <;> cases c <;> simp_all
theorem neD {c : Bool} {p q : Prop} [Decidable q] (h : c = true ↔ ¬ p) (h2 : p ↔ q) : c = !decide q := by
  by_cases hq : q <;> cases c <;> simp_all

theorem rows_mapP {α : Type} {f : α → Segs} {p : α → Prop} : ∀ {rows : List Segs}, (∀ r ∈ rows, ∃ x, r = f x ∧ p x) → ∃ l : List α, rows = l.map f ∧ ∀ x ∈ l, p x
  | [], _ => ⟨[], rfl, fun _ h => (by cases h)⟩
  | r :: rows, h => by
    obtain ⟨x, hx, hp⟩ := h r (.head _)
    obtain ⟨l, hl, hq⟩ := rows_mapP (fun r hr => h r (.tail _ hr))
    refine ⟨x :: l, by simp [hx, hl], fun y hy => ?_⟩
    rcases List.mem_cons.1 hy with rfl | hy
    · exact hp
    · exact hq y hy
end Go.Esp
/-
  Arrays cell by cell; division, bits, shifts, conversions of integers; functions of the library that have no body.
-/
set_option linter.unusedSimpArgs false
set_option linter.unusedVariables false
set_option linter.unnecessarySimpa false
namespace Go.Esp

/-- An array's length and element, where an element has one cell. -/
def arOf (P : Program) (t : TypeId) : Option (Nat × TypeId) := match P.underlying t with
  | some (.array k el) => match P.info? el with
    | some i => if i.size = 1 then some (k, el) else none
    | none => none
  | _ => none

theorem arOf_spec {P : Program} {t el k : Nat} (h : arOf P t = some (k, el)) : ∃ i, P.underlying t = some (.array k el) ∧ P.info? el = some i ∧ i.size = 1 := by
  unfold arOf at h
  split at h
  · rename_i k' el' hu
    split at h
    · rename_i i hi
      split at h
      · rename_i h1
        cases h
        exact ⟨i, hu, hi, h1⟩
      · cases h
    · cases h
  · cases h

section
variable {P : Program} {n : Sh} {ops : Array Oper} {Q : Exit → Act → World → Prop} {rest : List Nat} {M M' : Mem} {H H' H0 : Hp} {e : Env} {J S : World → Prop} {A : As} {i : Nat}
  {dst : Option Tmp} {d : Tmp} {op : Op} {ty : TypeId} {pos : String} {af : Array Edge} {gd : Option (Nat × Bool)}

/-! ### Integers -/

theorem X_quo {t t' : TypeId} {x y : Operand} {k : IntKind} {a b r : Int} (hi : ops[i]? = some ⟨some d, .binOp .quo t x y t', ty, pos, af, gd⟩) (hg : want ops e gd = some true)
    (hx : ev e x = some (.int k a)) (hy : ev e y = some (.int k b)) (hb : b ≠ 0) (hr : k.wrap (a.tdiv b) = r) (hd : Nat.ble (d + 1) n.sz = true)
    (hk : XD P n ops Q rest J A ((d, .int k r) :: e)) : XD P n ops Q (i :: rest) J A e := by
  refine X_pure hi rfl hg (fun a' w ha => runs_of ?_) (fun a ha => ha.put hd _) hk
  simp only [execOp, ha.ev hx, ha.ev hy]
  refine run_v ?_
  subst hr
  rw [Sem.run_bind]
  simp [eqGuard, binOp, Op.intDiv, hb]

theorem X_rem {t t' : TypeId} {x y : Operand} {k : IntKind} {a b r : Int} (hi : ops[i]? = some ⟨some d, .binOp .rem t x y t', ty, pos, af, gd⟩) (hg : want ops e gd = some true)
    (hx : ev e x = some (.int k a)) (hy : ev e y = some (.int k b)) (hb : b ≠ 0) (hr : a.tmod b = r) (hd : Nat.ble (d + 1) n.sz = true)
    (hk : XD P n ops Q rest J A ((d, .int k r) :: e)) : XD P n ops Q (i :: rest) J A e := by
  refine X_pure hi rfl hg (fun a' w ha => runs_of ?_) (fun a ha => ha.put hd _) hk
  simp only [execOp, ha.ev hx, ha.ev hy]
  refine run_v ?_
  subst hr
  rw [Sem.run_bind]
  simp [eqGuard, binOp, Op.intDiv, hb]

def bitsK : BinOp → (k : IntKind) → Int → Int → Option Int
  | .and, k, a, b => some (k.wrap (BitVec.ofInt k.bits a &&& BitVec.ofInt k.bits b).toNat)
  | .or, k, a, b => some (k.wrap (BitVec.ofInt k.bits a ||| BitVec.ofInt k.bits b).toNat)
  | .xor, k, a, b => some (k.wrap (BitVec.ofInt k.bits a ^^^ BitVec.ofInt k.bits b).toNat)
  | .andNot, k, a, b => some (k.wrap (BitVec.ofInt k.bits a &&& ~~~BitVec.ofInt k.bits b).toNat)
  | _, _, _, _ => none

theorem X_bits {o : BinOp} {t t' : TypeId} {x y : Operand} {k : IntKind} {a b z r : Int} (hi : ops[i]? = some ⟨some d, .binOp o t x y t', ty, pos, af, gd⟩) (hg : want ops e gd = some true)
    (hx : ev e x = some (.int k a)) (hy : ev e y = some (.int k b)) (hc : bitsK o k a b = some z) (hr : z = r) (hd : Nat.ble (d + 1) n.sz = true)
    (hk : XD P n ops Q rest J A ((d, .int k r) :: e)) : XD P n ops Q (i :: rest) J A e := by
  have hcl : clOf P (.binOp o t x y t') = .pure := by cases o <;> first | rfl | (cases hc; done)
  refine X_pure hi hcl hg (fun a' w ha => runs_of ?_) (fun a ha => ha.put hd _) hk
  simp only [execOp, ha.ev hx, ha.ev hy]
  refine run_v ?_
  subst hr
  cases o <;> simp only [bitsK, Option.some.injEq] at hc <;> first
    | (cases hc; done)
    | (subst hc; rw [Sem.run_bind]; simp [eqGuard, binOp, Op.intBits]; done)

def shiftK : BinOp → (k : IntKind) → Int → Int → Option Int
  | .shl, k, a, b => some (k.wrap (a * 2 ^ (min b.toNat k.bits)))
  | .shr, k, a, b => some (a.fdiv (2 ^ (min b.toNat k.bits)))
  | _, _, _, _ => none

theorem X_shift {o : BinOp} {t t' : TypeId} {x y : Operand} {k k' : IntKind} {a b z r : Int} (hi : ops[i]? = some ⟨some d, .binOp o t x y t', ty, pos, af, gd⟩) (hg : want ops e gd = some true)
    (hx : ev e x = some (.int k a)) (hy : ev e y = some (.int k' b)) (hb : 0 ≤ b) (hc : shiftK o k a b = some z) (hr : z = r) (hd : Nat.ble (d + 1) n.sz = true)
    (hk : XD P n ops Q rest J A ((d, .int k r) :: e)) : XD P n ops Q (i :: rest) J A e := by
  have hcl : clOf P (.binOp o t x y t') = .pure := by cases o <;> first | rfl | (cases hc; done)
  refine X_pure hi hcl hg (fun a' w ha => runs_of ?_) (fun a ha => ha.put hd _) hk
  simp only [execOp, ha.ev hx, ha.ev hy]
  refine run_v ?_
  subst hr
  have hb' : ¬ b < 0 := by omega
  cases o <;> simp only [shiftK, Option.some.injEq] at hc <;> first
    | (cases hc; done)
    | (subst hc; rw [Sem.run_bind]; simp [eqGuard, binOp, Op.shift, hb']; done)

theorem shr_lit {k : IntKind} {z : Int} (m : Nat) (hm : m ≤ k.bits) : shiftK .shr k z (m : Int) = some (z / 2 ^ m) := by
  simp only [shiftK, Int.toNat_natCast, Nat.min_eq_left hm]
  rw [Int.fdiv_eq_ediv_of_nonneg _ (Int.pow_nonneg (by decide))]

theorem X_conv {s t : TypeId} {x : Operand} {k q : IntKind} {k' : IntKind} {a r : Int} (hi : ops[i]? = some ⟨some d, .convert s t x, ty, pos, af, gd⟩) (hg : want ops e gd = some true)
    (hx : ev e x = some (.int k' a)) (hs : P.underlying s = some (.int q)) (ht : P.underlying t = some (.int k)) (hr : k.wrap a = r) (hd : Nat.ble (d + 1) n.sz = true)
    (hk : XD P n ops Q rest J A ((d, .int k r) :: e)) : XD P n ops Q (i :: rest) J A e := by
  have hcl : clOf P (.convert s t x) = .pure := by simp [clOf, hs, ht]
  refine X_pure hi hcl hg (fun a' w ha => runs_of ?_) (fun a ha => ha.put hd _) hk
  simp only [execOp, ha.ev hx]
  refine run_v ?_
  unfold convert
  rw [run_bind_ok (run_underlying' hs), run_bind_ok (run_underlying' ht)]
  subst hr
  cases q <;> cases k <;> rfl

theorem X_compl {t : TypeId} {x : Operand} {k : IntKind} {a z r : Int} (hi : ops[i]? = some ⟨some d, .unOp .xor t x, ty, pos, af, gd⟩) (hg : want ops e gd = some true)
    (hx : ev e x = some (.int k a)) (hc : bitsK .xor k (if k.signed then -1 else k.max) a = some z) (hr : z = r) (hd : Nat.ble (d + 1) n.sz = true)
    (hk : XD P n ops Q rest J A ((d, .int k r) :: e)) : XD P n ops Q (i :: rest) J A e := by
  refine X_pure hi rfl hg (fun a' w ha => runs_of ?_) (fun a ha => ha.put hd _) hk
  simp only [execOp, ha.ev hx]
  refine run_v ?_
  subst hr
  simp only [bitsK, Option.some.injEq] at hc
  subst hc
  simp [Op.unary, Op.intBits]

theorem X_neg {t : TypeId} {x : Operand} {k : IntKind} {a r : Int} (hi : ops[i]? = some ⟨some d, .unOp .neg t x, ty, pos, af, gd⟩) (hg : want ops e gd = some true)
    (hx : ev e x = some (.int k a)) (hr : k.wrap (0 - a) = r) (hd : Nat.ble (d + 1) n.sz = true)
    (hk : XD P n ops Q rest J A ((d, .int k r) :: e)) : XD P n ops Q (i :: rest) J A e := by
  refine X_pure hi rfl hg (fun a' w ha => runs_of ?_) (fun a ha => ha.put hd _) hk
  simp only [execOp, ha.ev hx]
  refine run_v ?_
  subst hr
  simp [Op.unary, Op.intArith]

def w64 (z : Int) : Int := z % 18446744073709551616
def w32 (z : Int) : Int := z % 4294967296
def w8 (z : Int) : Int := z % 256
theorem wrap_u64 (z : Int) : IntKind.wrap .u64 z = w64 z := by unfold w64 IntKind.wrap; simp [IntKind.bits, IntKind.signed]
theorem wrap_u32 (z : Int) : IntKind.wrap .u32 z = w32 z := by unfold w32 IntKind.wrap; simp [IntKind.bits, IntKind.signed]
theorem wrap_u8 (z : Int) : IntKind.wrap .u8 z = w8 z := by unfold w8 IntKind.wrap; simp [IntKind.bits, IntKind.signed]

theorem wrap_u64_in {k : IntKind} {z : Int} (hk : k = .u64) (h : 0 ≤ z ∧ z ≤ 18446744073709551615) : k.wrap z = z := by subst hk; rw [wrap_u64]; unfold w64; omega
theorem wrap_u32_in {k : IntKind} {z : Int} (hk : k = .u32) (h : 0 ≤ z ∧ z ≤ 4294967295) : k.wrap z = z := by subst hk; rw [wrap_u32]; unfold w32; omega
theorem wrap_u8_in {k : IntKind} {z : Int} (hk : k = .u8) (h : 0 ≤ z ∧ z ≤ 255) : k.wrap z = z := by subst hk; rw [wrap_u8]; unfold w8; omega
theorem rem_nn {a b : Int} (h : 0 ≤ a) : a.tmod b = a % b := Int.tmod_eq_emod_of_nonneg h
theorem quo_in {k : IntKind} {a b : Int} (hk : k = .i64) (h : 0 ≤ a) (hb : 0 < b) (hm : a ≤ 9223372036854775807) : k.wrap (a.tdiv b) = a / b := by
  rw [Int.tdiv_eq_ediv_of_nonneg h]
  have h1 : 0 ≤ a / b := Int.ediv_nonneg h (by omega)
  have h2 : a / b ≤ a := Int.ediv_le_self _ h
  exact wrap_in hk (by omega)

/-! ### Arrays -/

theorem X_indexAddr_arr {t el b off len k : Nat} {x ix : Operand} {q : IntKind} {z : Int} (hi : ops[i]? = some ⟨some d, .indexAddr t x ix, ty, pos, af, gd⟩) (hg : want ops e gd = some true)
    (hx : ev e x = some (.pointer (some ⟨b, off, none⟩))) (hix : ev e ix = some (.int q z)) (ht : arOf P t = some (len, el)) (hz : z = (k : Int)) (hk : k < len) (hd : Nat.ble (d + 1) n.sz = true)
    (hK : XD P n ops Q rest J A ((d, .pointer (some ⟨b, off + k, none⟩)) :: e)) : XD P n ops Q (i :: rest) J A e :=
  X_pure hi rfl hg (fun a' w hA => runs_of (by
    simp only [execOp, hA.ev hx, hA.ev hix]
    refine run_v ?_
    obtain ⟨it, hu, hit, h1⟩ := arOf_spec ht
    subst hz
    simp [Instr.indexAt, asIntOf, run_underlying hu, sizeOf, typeInfo, hit, hk, h1, Instr.sureAddr, Addr.add_lit])) (fun a ha => ha.put hd _) hK

theorem drop_take_one {l : List Value} {j : Nat} {v : Value} (h : l[j]? = some v) : (l.drop j).take 1 = [v] := by
  obtain ⟨hj, rfl⟩ := List.getElem?_eq_some_iff.1 h
  rw [List.drop_eq_getElem_cons hj]; rfl

/-- A load of one cell. -/
theorem X_load_cell {t : TypeId} {x : Operand} {b j : Nat} {r : Segs} {T : TypeId} {v : Value} {MJ : Mem} {HJ : Hp} (hi : ops[i]? = some ⟨some d, .load t x, ty, pos, af, gd⟩) (hg : want ops e gd = some true)
    (hx : ev e x = some (.pointer (some ⟨b, j, none⟩))) (hb : (b, rowO r T) ∈ HJ) (hl : lay P t = some (false, 1)) (hv : (Segs.cells r)[j]? = some v)
    (hd : Nat.ble (d + 1) n.sz = true) (hk : XD P n ops Q rest (St MJ HJ) A ((d, v) :: e)) : XD P n ops Q (i :: rest) (St MJ HJ) A e :=
  X_read hi rfl hg (fun a' w ha hw => runs_of (by
    simp only [execOp, ha.ev hx]
    exact run_v (run_loadAt' (r := [.one v]) (hw.own _ _ hb) hl (by rw [List.toList_toArray]; exact drop_take_one hv) rfl rfl))) (fun a ha => ha.put hd _) hk

theorem run_storeCell {b j : Nat} {T t : TypeId} {r u : Segs} {v : Value} {w : World} (hb : w.heap[b]? = some (rowO r T)) (hl : lay P t = some (false, 1)) (hc : v.cells = #[v]) (h1 : v.oneCell' = true)
    (hj : j < (Segs.cells r).length) (hu : Segs.cells u = (Segs.cells r).set j v) :
    ∃ w', (Instr.storeAt t (.pointer (some ⟨b, j, none⟩)) v).run P w = .ok () w' ∧ w'.heap[b]? = some (rowO u T) ∧ (∀ c, c ≠ b → w'.heap[c]? = w.heap[c]?) ∧ SameIO w w' := by
  obtain ⟨d, i, hd, hi, hsz, hag⟩ := lay_spec hl
  have hst := run_storeCells_at P b j T [v] 0 (Segs.cells r).toArray w hb (by simp; omega) (fun x hx => by simp at hx; subst hx; exact h1)
  refine ⟨w.setRow b (Segs.cells u).toArray, ?_, setRow_heap w b _ _ T _ hb, fun c hc => setRow_other w b c _ hc, SameIO.refl _⟩
  unfold Instr.storeAt
  rw [Sem.run_bind]
  show (Result.ok _ w).andThen _ = _
  rw [Result.andThen_ok]
  unfold storeVar
  rw [Sem.run_bind, run_sizeOf' hi, Result.andThen_ok]
  have hs : v.cells.size = i.size := by rw [hc, hsz]; rfl
  simp only [hs, ne_eq, not_true_eq_false, if_false]
  rw [hc]
  have e1 : (Segs.cells u).toArray = (Segs.cells r).toArray.setIfInBounds j v := by rw [hu]; simp
  rw [e1]
  have e2 : (Segs.cells r).toArray.setIfInBounds j v = (List.take j (Segs.cells r) ++ v :: List.drop (j + 1) (Segs.cells r)).toArray := by
    apply Array.ext'
    simp only [Array.toList_setIfInBounds]
    rw [List.set_eq_take_append_cons_drop, if_pos hj]
  rw [e2]
  simpa using hst

theorem X_store_cell {t : TypeId} {x y : Operand} {b j : Nat} {r u : Segs} {T : TypeId} {v : Value} (hi : ops[i]? = some ⟨none, .store t x y, ty, pos, af, gd⟩) (hg : want ops e gd = some true)
    (hx : ev e x = some (.pointer (some ⟨b, j, none⟩))) (hy : ev e y = some v) (hc : v.cells = #[v]) (h1 : v.oneCell' = true) (hu : Upd b (rowO r T) (rowO u T) H H') (hl : lay P t = some (false, 1)) (hj : j < (Segs.cells r).length) (hs : Segs.cells u = (Segs.cells r).set j v)
    (hk : XD P n ops Q rest (St M H') ⟨M, H'⟩ e) (hnw : n.wrs.contains i = false := by rfl) : XD P n ops Q (i :: rest) J ⟨M, H⟩ e := by
  refine X_mut hi rfl hg (fun a w ha hw => ?_) hnw
  obtain ⟨w', h1, h2, h3, h4⟩ := run_storeCell (P := P) (hw.own _ _ hu.mem) hl hc h1 hj hs
  unfold Oper.does
  have : (execOp a.eval ⟨none, .store t x y, ty, pos, af, gd⟩).run P w = .ok .skip w' := by
    simp only [execOp, ha.ev hx, ha.ev hy]
    rw [run_bind_ok h1]; rfl
  rw [this]
  exact ⟨⟨M, H'⟩, e, hw.upd hu h2 (fun c hc z hz => by rw [h3 c hc]; exact hz) h4, ha, hk⟩

theorem arr_cells {m : Nat} (f : Vector Value m) : Segs.cells [.arr m f] = f.toList := by simp [Segs.cells, Seg.cells]
theorem arr_at {m j : Nat} {f : Vector Value m} (h : j < m) : (Segs.cells [.arr m f])[0 + j]? = some f[j] := by
  rw [arr_cells, Nat.zero_add, List.getElem?_eq_getElem (by simpa using h)]; simp
theorem arr_set {m j : Nat} {f : Vector Value m} {v : Value} (h : j < m) : Segs.cells [.arr m (f.set j v h)] = (Segs.cells [.arr m f]).set (0 + j) v := by
  rw [arr_cells, arr_cells, Nat.zero_add, Vector.toList_set]
theorem arr_len {m j : Nat} {f : Vector Value m} (h : j < m) : 0 + j < (Segs.cells [.arr m f]).length := by rw [arr_cells]; simpa using h
theorem id_at {j : Nat} {x : Plc} (h : j < 20) : (Segs.cells [idSeg x])[0 + j]? = some (.int .u8 (idB x j)) := by
  have := arr_at (f := idV x) h
  rw [idV_get x h] at this
  exact this

theorem arr_at' {m j : Nat} {f : Vector Value m} (h : j < m) : (Segs.cells [.arr m f])[j]? = some f[j] := by have := arr_at (f := f) h; rwa [Nat.zero_add] at this
theorem id_at' {j : Nat} {x : Plc} (h : j < 20) : (Segs.cells [idSeg x])[j]? = some (.int .u8 (idB x j)) := by have := id_at (x := x) h; rwa [Nat.zero_add] at this

/-- A cell of an array that is a value. -/
theorem X_index_arr {t el len k : Nat} {x ix : Operand} {q : IntKind} {z : Int} {r : Segs} {v : Value} (hi : ops[i]? = some ⟨some d, .index t x ix, ty, pos, af, gd⟩) (hg : want ops e gd = some true)
    (hx : ev e x = some (aggV r)) (hix : ev e ix = some (.int q z)) (ht : arOf P t = some (len, el)) (hl : lay P el = some (false, 1)) (hz : z = (k : Int)) (hk : k < len) (hv : (Segs.cells r)[k]? = some v) (hd : Nat.ble (d + 1) n.sz = true)
    (hK : XD P n ops Q rest J A ((d, v) :: e)) : XD P n ops Q (i :: rest) J A e :=
  X_pure hi rfl hg (fun a' w hA => runs_of (by
    simp only [execOp, hA.ev hx, hA.ev hix]
    refine run_v ?_
    obtain ⟨it, hu, hit, h1⟩ := arOf_spec ht
    obtain ⟨D, i2, hD, hi2, hs2, hag⟩ := lay_spec hl
    subst hz
    have hk' : k < (Segs.cells r).length := (List.getElem?_eq_some_iff.1 hv).1
    have e1 : (Segs.cells r)[k] = v := (List.getElem?_eq_some_iff.1 hv).2
    simp [Instr.index, aggV, asIntOf, run_underlying hu, sizeOf, typeInfo, hit, hk, h1]
    unfold part
    rw [run_bind_ok (run_isAgg hD), hag]
    simp [hv])) (fun a ha => ha.put hd _) hK

/-- A whole array as a slice. -/
theorem X_slice_arr {t el b off len : Nat} {x : Operand} (hi : ops[i]? = some ⟨some d, .slice t x none none none, ty, pos, af, gd⟩) (hg : want ops e gd = some true)
    (hx : ev e x = some (.pointer (some ⟨b, off, none⟩))) (ht : arOf P t = some (len, el)) (hd : Nat.ble (d + 1) n.sz = true)
    (hK : XD P n ops Q rest J A ((d, .slice (some ⟨b, off, none⟩) len len) :: e)) : XD P n ops Q (i :: rest) J A e :=
  X_pure hi rfl hg (fun a' w hA => runs_of (by
    simp only [execOp, hA.ev hx]
    refine run_v ?_
    obtain ⟨it, hu, hit, h1⟩ := arOf_spec ht
    have e0 : (⟨b, off, none⟩ : Addr).add 0 = ⟨b, off, none⟩ := by rw [Addr.add_lit]; rfl
    simp [Instr.sliceAt, run_underlying hu, Instr.sureAddr, Instr.sliceBounds, sizeOf, typeInfo, hit, h1, e0])) (fun a ha => ha.put hd _) hK

/-- The zero of an array, as a literal without parts. -/
theorem X_build0 {T el len : Nat} {r : Segs} (hi : ops[i]? = some ⟨some d, .build T #[], ty, pos, af, gd⟩) (hg : want ops e gd = some true)
    (hz : zeroOf P T = some (aggV r)) (hA : arOf P T = some (len, el)) (hd : Nat.ble (d + 1) n.sz = true) (hk : XD P n ops Q rest J A ((d, aggV r) :: e)) : XD P n ops Q (i :: rest) J A e :=
  X_pure hi rfl hg (fun a' w ha => runs_of (by
    simp only [execOp]
    refine run_v ?_
    obtain ⟨it, hu, hit, h1⟩ := arOf_spec hA
    unfold zeroOf at hz
    refine run_build w T _ _ ?_
    unfold Program.built
    cases hi : P.info? T with
    | none => rw [hi] at hz; cases hz
    | some it2 =>
      rw [hi] at hz
      simp only at hz
      simp [hu, hi, hz, hit, Instr.fill, aggV, Value.cells])) (fun a ha => ha.put hd _) hk

/-- A literal of constants. -/
theorem X_buildC {T : TypeId} {parts : Array (Nat × Operand)} {vs : Array (Nat × Value)} {v : Value} (hi : ops[i]? = some ⟨some d, .build T parts, ty, pos, af, gd⟩) (hg : want ops e gd = some true)
    (hx : ∀ a, Sat n e a → (parts.map fun p => (p.1, a.eval p.2)) = vs) (h : ∀ w, (Instr.build T vs).run P w = .ok v w) (hd : Nat.ble (d + 1) n.sz = true) (hk : XD P n ops Q rest J A ((d, v) :: e)) : XD P n ops Q (i :: rest) J A e :=
  X_pure hi rfl hg (fun a' w ha => runs_of (by
    simp only [execOp]
    have := hx a' ha
    rw [show (parts.map fun (x : Nat × Operand) => (x.1, a'.eval x.2)) = vs from this]
    exact run_v (h w))) (fun a ha => ha.put hd _) hk

/-- A store into memory of ours that no read of the region leans on. -/
theorem X_storeE {t : TypeId} {x y : Operand} {b off m : Nat} {agg : Bool} {r q u : Segs} {T : TypeId} {v : Value} {MJ : Mem} {HJ : Hp} (hi : ops[i]? = some ⟨none, .store t x y, ty, pos, af, gd⟩) (hws : n.wrs.contains i = true) (hg : want ops e gd = some true)
    (hx : ev e x = some (.pointer (some ⟨b, off, none⟩))) (hy : ev e y = some v) (hp : Parts v q) (hq : flat q) (hu : Upd b (rowO r T) (rowO u T) H H') (hl : lay P t = some (agg, m)) (hn : Segs.len q = m) (hs : Segs.put r off q = some u)
    (hJ : ∀ w, St M H' w → St MJ HJ w) (hk : XD P n ops Q rest (St MJ HJ) ⟨M, H'⟩ e) : XD P n ops Q (i :: rest) (St MJ HJ) ⟨M, H⟩ e := by
  refine X_mutE hi rfl hws hg (fun a F w ha hw => ?_)
  obtain ⟨w', h1, h2, h3, h4⟩ := run_storeAt' (P := P) (St.own hw _ _ (hu.over F).mem) hl hp hq hn hs
  unfold Oper.does
  have : (execOp a.eval ⟨none, .store t x y, ty, pos, af, gd⟩).run P w = .ok .skip w' := by
    simp only [execOp, ha.ev hx, ha.ev hy]
    rw [run_bind_ok h1]; rfl
  rw [this]
  exact ⟨⟨M, H'⟩, e, St.upd hw (hu.over F) h2 (fun c hc z hz => by rw [h3 c hc]; exact hz) h4, hJ, ha, hk⟩

theorem K_unwR {m : Nat} {ds : List Deferred} {ro : Option Nat} {ws : List Nat} {x : Exit} (h : K ⟨m, ds, ro, []⟩ Q x S e) : K ⟨m, ds, ro, ws⟩ Q x S e := K_unw h

theorem C_region_anyWR {m : Nat} {ds : List Deferred} {ro : Option Nat} {Hin Hr : Hp} {id : Nat} {l : List Nat} (ws : List Nat) (B : Array Nat) (hR : Rem Hin H Hr) (hl : List.range ops.size = l) (hm : P.follows .mixedOrders = true) (hok : okRegion ops (clsOf P ws ops) B = true)
    (h : XD P ⟨m, ds, ro, ws⟩ ops Q l (St M Hr) ⟨M, H⟩ e) : C P ⟨m, ds, ro, []⟩ (.region id ops true) Q (St M H) e :=
  C_region_anyW ws B (St M Hr) hl hm hok St.drawn (fun _ hw => (hw.perm hR.perm).suf (Suf.app Hin Hr)) h

theorem C_region_anyWR2 {m : Nat} {ds : List Deferred} {ro : Option Nat} {Hin Hin2 Hr Hr2 : Hp} {id : Nat} {l : List Nat} (ws : List Nat) (B : Array Nat) (hR : Rem Hin H Hr) (hR2 : Rem Hin2 Hr Hr2) (hl : List.range ops.size = l) (hm : P.follows .mixedOrders = true) (hok : okRegion ops (clsOf P ws ops) B = true)
    (h : XD P ⟨m, ds, ro, ws⟩ ops Q l (St M Hr2) ⟨M, H⟩ e) : C P ⟨m, ds, ro, []⟩ (.region id ops true) Q (St M H) e :=
  C_region_anyW ws B (St M Hr2) hl hm hok St.drawn (fun _ hw => ((((hw.perm hR.perm).suf (Suf.app Hin Hr)).perm hR2.perm).suf (Suf.app Hin2 Hr2))) h

theorem C_region_anyWR3 {m : Nat} {ds : List Deferred} {ro : Option Nat} {Hin Hin2 Hin3 Hr Hr2 Hr3 : Hp} {id : Nat} {l : List Nat} (ws : List Nat) (B : Array Nat) (hR : Rem Hin H Hr) (hR2 : Rem Hin2 Hr Hr2) (hR3 : Rem Hin3 Hr2 Hr3) (hl : List.range ops.size = l) (hm : P.follows .mixedOrders = true) (hok : okRegion ops (clsOf P ws ops) B = true)
    (h : XD P ⟨m, ds, ro, ws⟩ ops Q l (St M Hr3) ⟨M, H⟩ e) : C P ⟨m, ds, ro, []⟩ (.region id ops true) Q (St M H) e :=
  C_region_anyW ws B (St M Hr3) hl hm hok St.drawn (fun _ hw => ((((((hw.perm hR.perm).suf (Suf.app Hin Hr)).perm hR2.perm).suf (Suf.app Hin2 Hr2))).perm hR3.perm).suf (Suf.app Hin3 Hr3)) h

/-! ### Functions without a body -/

/-- What a function of the library without a body does at a world. -/
def Ext (P : Program) (f : FuncId) (g : Array Value → Sem Value) : Prop :=
  ∀ (args : Array Value) (w : World), (callFunc f args).run P w = (do pure (Next.value (← g args)) : Sem Next).run P w

theorem does_ext {f : FuncId} {g : Array Value → Sem Value} {xs : Array Operand} {ats : Array TypeId} {a : Act} {w w' : World} {vs : List Value} {v : Value} {K : Value → World → Prop} (hf : Ext P f g)
    (hx : xs.toList.map a.eval = vs) (hr : (g vs.toArray).run P w = .ok v w') (hK : K v w') :
    Oper.does P ⟨dst, .call ⟨.value (.func f), xs, ats⟩, ty, pos, af, gd⟩ a w K := by
  unfold Oper.does
  have e : (execOp a.eval ⟨dst, .call ⟨.value (.func f), xs, ats⟩, ty, pos, af, gd⟩).run P w = .ok (.value v) w' := by
    have e1 : #[] ++ xs.map a.eval ++ #[] = vs.toArray := by
      apply Array.ext'
      simp [hx]
    rw [execOp_call_go, e1, hf, run_bind_ok hr]
    rfl
  rw [e]; exact hK

/-- A call of a function without a body that leaves memory as it was. -/
theorem X_ext {f : FuncId} {g : Array Value → Sem Value} {xs : List Operand} {ats : Array TypeId} {vs : List Value} {v : Value} (hi : ops[i]? = some ⟨some d, .call ⟨.value (.func f), xs.toArray, ats⟩, ty, pos, af, gd⟩) (hg : want ops e gd = some true)
    (hf : Ext P f g) (hx : evs e xs = some vs) (hr : ∀ w, St M H w → (g vs.toArray).run P w = .ok v w) (hd : Nat.ble (d + 1) n.sz = true)
    (hk : XD P n ops Q rest J ⟨M, H⟩ ((d, v) :: e)) : XD P n ops Q (i :: rest) J ⟨M, H⟩ e := by
  refine X_eff hi rfl hg (fun a F w ha hw => ?_)
  exact does_ext hf (ha.evs hx) (hr w (St.unframe hw)) ⟨⟨M, H⟩, _, hw, fun _ h => h, ha.put hd v, hk⟩
end
end Go.Esp
/-
  Loops whose world stays, or stays but for what the loop owns.
-/
set_option linter.unusedSimpArgs false
set_option linter.unusedVariables false
set_option linter.unnecessarySimpa false
namespace Go.Esp
section
variable {P : Program} {n : Sh} {ops : Array Oper} {Q : Exit → Act → World → Prop} {M M' : Mem} {H H' H0 : Hp} {e : Env} {S : World → Prop}

def RoundS {α : Type} (n : Sh) (e0 : Env) (S0 : World → Prop) (I : α → Env → Prop) (μ : α → Nat) (x : α) : Act → World → Prop :=
  Round n e0 (fun x S z => S = S0 ∧ I x z) μ x

/-- A loop in a world that stays as it is. -/
theorem C_loopS {α : Type} {c : Code} {a0 e0 : Env} (hs : Spl e a0 e0) (I : α → Env → Prop) (μ : α → Nat) (x0 : α) (h0 : I x0 a0)
    (round : ∀ x z, I x z → C P n c (Exit.then (RoundS n e0 S I μ x) Q) S (z ++ e0)) : C P n (.loop c) Q S e :=
  C_loop hs (fun x S' z => S' = S ∧ I x z) μ x0 ⟨rfl, h0⟩ (fun x S' z ⟨h1, h2⟩ => by subst h1; exact round x z h2)

theorem K_roundS {α : Type} {a' e0 : Env} {S0 : World → Prop} {I : α → Env → Prop} {μ : α → Nat} {x : α} (y : α) (hp : Pick e (a' ++ e0)) (hS : ∀ w, S w → S0 w) (hI : I y a') (hμ : μ y < μ x) :
    K n (Exit.then (RoundS n e0 S0 I μ x) Q) .normal S e := fun _ _ ha hw => ⟨y, S0, a', ⟨rfl, hI⟩, hμ, ha.pick hp, hS _ hw⟩

def RoundO {α : Type} (n : Sh) (e0 : Env) (M : Mem) (H0 : Hp) (I : α → Mem → Hp → Env → Prop) (μ : α → Nat) (x : α) : Act → World → Prop :=
  Round n e0 (fun x S z => ∃ M1 h1, M.le M1 ∧ S = St M1 (h1 ++ H0) ∧ I x M1 h1 z) μ x

/-- A loop that turns what it owns, and makes what never changes. -/
theorem C_loopO {α : Type} {c : Code} {a0 e0 : Env} {Hin : Hp} (hs : Spl e a0 e0) (hR : Rem Hin H H0) (I : α → Mem → Hp → Env → Prop) (μ : α → Nat) (x0 : α) (h0 : I x0 M Hin a0)
    (round : ∀ x M1 h1 z, M.le M1 → I x M1 h1 z → C P n c (Exit.then (RoundO n e0 M H0 I μ x) Q) (St M1 (h1 ++ H0)) (z ++ e0)) : C P n (.loop c) Q (St M H) e :=
  C_weak (fun _ h => h) (fun _ hw => hw.perm hR.perm)
    (C_loop hs (fun x S' z => ∃ M1 h1, M.le M1 ∧ S' = St M1 (h1 ++ H0) ∧ I x M1 h1 z) μ x0 ⟨M, Hin, Mem.le.refl M, rfl, h0⟩ (fun x S' z ⟨M1, h1, hm, e1, h2⟩ => by subst e1; exact round x M1 h1 z hm h2))

/-- The same where what it owns lies in two places. -/
theorem C_loopO2 {α : Type} {c : Code} {a0 e0 : Env} {Hin Hin2 H1 : Hp} (hs : Spl e a0 e0) (hR : Rem Hin H H1) (hR2 : Rem Hin2 H1 H0) (I : α → Mem → Hp → Env → Prop) (μ : α → Nat) (x0 : α) (h0 : I x0 M (Hin ++ Hin2) a0)
    (round : ∀ x M1 h1 z, M.le M1 → I x M1 h1 z → C P n c (Exit.then (RoundO n e0 M H0 I μ x) Q) (St M1 (h1 ++ H0)) (z ++ e0)) : C P n (.loop c) Q (St M H) e :=
  C_weak (fun _ h => h) (fun _ hw => hw.perm0 ((hR.perm.trans (hR2.perm.append_left Hin)).trans (List.append_assoc _ _ _ ▸ List.Perm.refl _)))
    (C_loopO (Hin := Hin ++ Hin2) hs (Rem.here _) I μ x0 h0 round)

theorem K_roundO {α : Type} {a' e0 : Env} {I : α → Mem → Hp → Env → Prop} {μ : α → Nat} {x : α} {M2 : Mem} (y : α) (h2 : Hp) (hp : Pick e (a' ++ e0)) (hm : M.le M2) (hS : ∀ w, S w → St M2 (h2 ++ H0) w) (hI : I y M2 h2 a') (hμ : μ y < μ x) :
    K n (Exit.then (RoundO n e0 M H0 I μ x) Q) .normal S e := fun _ _ ha hw => ⟨y, _, a', ⟨M2, h2, hm, rfl, hI⟩, hμ, ha.pick hp, hS _ hw⟩
theorem does_callV {f : FuncId} {g : Operand} {xs : Array Operand} {ats : Array TypeId} {dst : Option Tmp} {ty : TypeId} {pos : String} {af : Array Edge} {gd : Option (Nat × Bool)} {a : Act} {w : World} {vs caps : List Value} {fn : Func} {K : Value → World → Prop} (hf : P.funcs[f]? = some fn) (hb : fn.body.isSome = true) (hn : (fn.name == "runtime.NumGoroutine") = false)
    (hg : a.eval g = .func (.func f) #[] caps.toArray) (hv : xs.toList.map a.eval = vs) (h : Calls P f (vs ++ caps).toArray w fun e w' => ∃ v, e = .returned v ∧ K v w') :
    Oper.does P ⟨dst, .call ⟨.value g, xs, ats⟩, ty, pos, af, gd⟩ a w K := by
  unfold Oper.does
  have : (execOp a.eval ⟨dst, .call ⟨.value g, xs, ats⟩, ty, pos, af, gd⟩).run P w = .ok (.enter f (vs ++ caps).toArray) w := by
    simp only [execOp, resolve, hg, Deferred.ofValue, pure_bind, invoke]
    have e : #[] ++ xs.map a.eval ++ caps.toArray = (vs ++ caps).toArray := by
      apply Array.ext'
      simp [hv]
    rw [e]
    unfold callFunc
    rw [Sem.run_bind]
    show (Result.ok P w).andThen _ = _
    rw [Result.andThen_ok]
    simp only [hf, hn, Bool.false_eq_true, if_false]
    have : fn.body.isNone = false := by cases h' : fn.body <;> simp_all
    simp only [this, Bool.false_eq_true, if_false]
    rfl
  rw [this]
  exact h

/-- A call of a closure that changes nothing that was there. -/
theorem X_foV {i : Nat} {rest : List Nat} {J : World → Prop} {dst : Option Tmp} {ty : TypeId} {pos : String} {af : Array Edge} {gd : Option (Nat × Bool)} {f : FuncId} {g : Operand} {xs : List Operand} {ats : Array TypeId} {vs caps : List Value} {Hin : Hp} {R : Mem → Value → Prop} (hi : ops[i]? = some ⟨dst, .call ⟨.value g, xs.toArray, ats⟩, ty, pos, af, gd⟩) (hcl : clOf P (.call ⟨.value g, xs.toArray, ats⟩) = .eff) (hg : want ops e gd = some true)
    (hf : okFn P f = true) (hgv : ev e g = some (.func (.func f) #[] caps.toArray)) (hx : evs e xs = some vs) (hc : Fo P f (vs ++ caps) M Hin R) (hH : Rem Hin H H0) (hd : ∀ a v, Sat n e a → Sat n (putE dst v e) (a.put dst v))
    (hk : ∀ v M', M.le M' → R M' v → XD P n ops Q rest J ⟨M', H⟩ (putE dst v e)) : XD P n ops Q (i :: rest) J ⟨M, H⟩ e := by
  obtain ⟨fn, h1, h2, h3⟩ := okFn_spec hf
  refine X_eff hi hcl hg (fun a F w ha hw => does_callV h1 h2 h3 (ha.ev hgv) (by simpa using ha.evs hx) ?_)
  exact (hc (F ++ H0) w (hw.perm0 ((hH.perm.append_left F).trans (swapF F Hin H0)))).mono fun e' w' ⟨v, M', he, hm, hs, hr⟩ => ⟨v, he, ⟨M', H⟩, _, hs.perm0 ((hH.perm.append_left F).trans (swapF F Hin H0)).symm, fun _ h => St.lower h hm, hd a v ha, hk v M' hm hr⟩

theorem fs_of_fo {f : FuncId} {vs : List Value} {R : Value → Prop} (h : Fo P f vs M [] (fun M' v => M' = M ∧ R v)) : Fs P f vs M R := fun H w hw =>
  (h H w hw).mono fun e w' ⟨v, M', he, _, hs, h1, h2⟩ => ⟨v, he, by rw [h1] at hs; exact hs, h2⟩
theorem St.rdl {M : Mem} {w : World} {hs H : Hp} (h : St M (hs ++ H) w) : St M hs w := h.cnt (fun x => by rw [cnt_app]; omega)
end
/-- The place of a number in a row; below 0: it is not there. -/
def idxI (x : Int) (l : List Int) : Int := if x ∈ l then (l.idxOf x : Int) else -1
theorem idxI_at {x : Int} {l : List Int} {k : Nat} (hk : k < l.length) (h1 : x ∉ l.take k) (h2 : x = l[k]) : idxI x l = k := by
  have hm : x ∈ l := by rw [h2]; exact List.getElem_mem hk
  unfold idxI
  rw [if_pos hm]
  have h3 : l.idxOf x < l.length := List.idxOf_lt_length_of_mem hm
  have h4 : l[l.idxOf x] = x := List.getElem_idxOf h3
  have h5 : l.idxOf x ≤ k := by
    rcases Nat.lt_or_ge k (l.idxOf x) with h | h
    · exfalso
      have := List.not_of_lt_findIdx (p := (· == x)) (xs := l) (i := k) h
      simp [h2] at this
    · exact h
  rcases Nat.lt_or_ge (l.idxOf x) k with h | h
  · exfalso
    apply h1
    rw [List.mem_take_iff_getElem]
    exact ⟨l.idxOf x, by omega, h4⟩
  · congr 1; omega
theorem idxI_none {x : Int} {l : List Int} (h : x ∉ l) : idxI x l = -1 := by unfold idxI; rw [if_neg h]
theorem idxI_nn {x : Int} {l : List Int} : 0 ≤ idxI x l ↔ x ∈ l := by
  unfold idxI; split <;> simp_all <;> omega
theorem not_take_succ {x : Int} {l : List Int} {k : Nat} (hk : k < l.length) (h1 : x ∉ l.take k) (h2 : ¬ x = l[k]) : x ∉ l.take (k + 1) := by
  rw [List.take_add_one, List.getElem?_eq_getElem hk]
  intro h
  rcases List.mem_append.1 h with h | h
  · exact h1 h
  · exact h2 (by simpa using h)

theorem take_succ_eq {α : Type} {l m : List α} {k : Nat} (hk : k < l.length) (hk' : k < m.length) (h : l.take k = m.take k) (e : l[k] = m[k]) : l.take (k + 1) = m.take (k + 1) := by
  rw [List.take_add_one, List.take_add_one, List.getElem?_eq_getElem hk, List.getElem?_eq_getElem hk', h, e]
theorem eq_of_take {α : Type} {l m : List α} {k : Nat} (hk : k = l.length) (hl : l.length = m.length) (h : l.take k = m.take k) : l = m := by
  subst hk
  rw [List.take_length, hl, List.take_length] at h
  exact h
theorem ne_at {α : Type} {l m : List α} {k : Nat} (hk : k < l.length) (hk' : k < m.length) (e : ¬ l[k] = m[k]) : ¬ l = m := by
  rintro rfl; exact e rfl
theorem OSl.valL {α : Type} {T sz : Nat} {v : Value} {hs : Hp} {f : α → Segs} {l : List α} (h : OSl T sz v hs (l.map f)) : ∃ a c, v = .slice a l.length c := by
  obtain ⟨a, c, h1⟩ := h.val
  rw [List.length_map] at h1
  exact ⟨a, c, h1⟩
theorem take_map_succ {α β : Type} {l : List α} {k : Nat} (f : α → β) (hk : k < l.length) : (l.take (k + 1)).map f = (l.take k).map f ++ [f l[k]] := by
  rw [List.take_add_one, List.getElem?_eq_getElem hk, List.map_append]; rfl
/-- The first place at which something holds. -/
def firstP (p : Nat → Bool) : Nat → Nat
  | 0 => 0
  | n + 1 => if firstP p n < n then firstP p n else if p n then n else n + 1

theorem firstP_spec (p : Nat → Bool) : ∀ n, firstP p n ≤ n ∧ (∀ x, x < firstP p n → p x = false) ∧ (firstP p n < n → p (firstP p n) = true)
  | 0 => ⟨Nat.le_refl 0, fun x h => (by cases h), fun h => (by cases h)⟩
  | n + 1 => by
    obtain ⟨h1, h2, h3⟩ := firstP_spec p n
    unfold firstP
    split
    · exact ⟨by omega, h2, fun _ => h3 (by assumption)⟩
    · rename_i hn
      have e : firstP p n = n := by omega
      rw [e] at h2
      split
      · rename_i hp; exact ⟨by omega, h2, fun _ => hp⟩
      · rename_i hp
        refine ⟨by omega, fun x hx => ?_, fun h => by omega⟩
        rcases Nat.lt_or_ge x n with h | h
        · exact h2 x h
        · obtain rfl : x = n := by omega
          simpa using hp

theorem firstP_at {p : Nat → Bool} {n a : Nat} (ha : a ≤ n) (h1 : ∀ x, x < a → p x = false) (h2 : a < n → p a = true) : firstP p n = a := by
  obtain ⟨g1, g2, g3⟩ := firstP_spec p n
  rcases Nat.lt_trichotomy (firstP p n) a with h | h | h
  · have := h1 _ h; rw [g3 (by omega)] at this; cases this
  · exact h
  · have := g2 a h; rw [h2 (by omega)] at this; cases this
end Go.Esp
/-
  The rules once more: what is plain in their arguments is found by itself.
-/
set_option linter.unusedSimpArgs false
set_option linter.unusedVariables false
set_option linter.unnecessarySimpa false
namespace Go.Esp
section
variable {P : Program} {n : Sh} {ops : Array Oper} {Q : Exit → Act → World → Prop} {rest : List Nat} {M M' : Mem} {H H' H0 : Hp} {e : Env} {J S : World → Prop} {A : As} {i : Nat}
  {dst : Option Tmp} {d : Tmp} {op : Op} {ty : TypeId} {pos : String} {af : Array Edge} {gd : Option (Nat × Bool)}

def picks (e : Env) : List Nat → Option Env
  | [] => some []
  | k :: ks => match get e k, picks e ks with
    | some v, some r => some ((k, v) :: r)
    | _, _ => none
theorem picks_ok {e : Env} : ∀ {ks : List Nat} {e' : Env}, picks e ks = some e' → Pick e e'
  | [], e', h => by cases h; exact .nil
  | k :: ks, e', h => by
    unfold picks at h
    split at h
    · rename_i v r h1 h2
      cases h
      exact .cons h1 (picks_ok h2)
    · cases h
/-- Some slots alone. -/
theorem Y_pk {c : Code} {e' : Env} (ks : List Nat) (hk : C P n c Q S e') (h : picks e ks = some e' := by exact rfl) : C P n c Q S e := C_pick (picks_ok h) hk

theorem Y_move {x : Operand} {v : Value} (hk : XD P n ops Q rest J A ((d, v) :: e)) (hi : ops[i]? = some ⟨some d, .move x, ty, pos, af, gd⟩ := by exact rfl) (hg : want ops e gd = some true := by exact rfl) (hx : ev e x = some v := by exact rfl) (hd : Nat.ble (d + 1) n.sz = true := by exact rfl) : XD P n ops Q (i :: rest) J A e :=
  X_move hi hg hx hd hk

theorem Y_assign {x : Operand} {v : Value} (hk : XD P n ops Q rest J A ((d, v) :: e)) (hi : ops[i]? = some ⟨some d, .assign x, ty, pos, af, gd⟩ := by exact rfl) (hg : want ops e gd = some true := by exact rfl) (hx : ev e x = some v := by exact rfl) (hd : Nat.ble (d + 1) n.sz = true := by exact rfl) : XD P n ops Q (i :: rest) J A e :=
  X_assign hi hg hx hd hk

theorem Y_pick {c x y : Operand} {b : Bool} {v : Value} (hk : XD P n ops Q rest J A ((d, v) :: e)) (hi : ops[i]? = some ⟨some d, .pick c x y, ty, pos, af, gd⟩ := by exact rfl) (hg : want ops e gd = some true := by exact rfl) (hc : ev e c = some (.bool b) := by exact rfl) (hx : ev e (if b then x else y) = some v := by exact rfl) (hd : Nat.ble (d + 1) n.sz = true := by exact rfl) : XD P n ops Q (i :: rest) J A e :=
  X_pick hi hg hc hx hd hk

theorem Y_not {t : TypeId} {x : Operand} {b : Bool} (hk : XD P n ops Q rest J A ((d, .bool (!b)) :: e)) (hi : ops[i]? = some ⟨some d, .unOp .not t x, ty, pos, af, gd⟩ := by exact rfl) (hg : want ops e gd = some true := by exact rfl) (hx : ev e x = some (.bool b) := by exact rfl) (hd : Nat.ble (d + 1) n.sz = true := by exact rfl) : XD P n ops Q (i :: rest) J A e :=
  X_not hi hg hx hd hk

theorem Y_extract {t : Operand} {ix : Nat} {vs : Array Value} {v : Value} (hk : XD P n ops Q rest J A ((d, v) :: e)) (hi : ops[i]? = some ⟨some d, .extract t ix, ty, pos, af, gd⟩ := by exact rfl) (hg : want ops e gd = some true := by exact rfl) (hx : ev e t = some (.tuple vs) := by exact rfl) (hv : vs[ix]? = some v := by exact rfl) (hd : Nat.ble (d + 1) n.sz = true := by exact rfl) : XD P n ops Q (i :: rest) J A e :=
  X_extract hi hg hx hv hd hk

theorem Y_nilCheck {x : Operand} {a : Addr} (hk : XD P n ops Q rest J A ((d, .pointer (some a)) :: e)) (hi : ops[i]? = some ⟨some d, .nilCheck x, ty, pos, af, gd⟩ := by exact rfl) (hg : want ops e gd = some true := by exact rfl) (hx : ev e x = some (.pointer (some a)) := by exact rfl) (hd : Nat.ble (d + 1) n.sz = true := by exact rfl) : XD P n ops Q (i :: rest) J A e :=
  X_nilCheck hi hg hx hd hk

theorem Y_cmp {o : BinOp} {t t' : TypeId} {x y : Operand} {k : IntKind} {a b : Int} {c : Bool} (hk : XD P n ops Q rest J A ((d, .bool c) :: e)) (hi : ops[i]? = some ⟨some d, .binOp o t x y t', ty, pos, af, gd⟩ := by exact rfl) (hg : want ops e gd = some true := by exact rfl) (hx : ev e x = some (.int k a) := by exact rfl) (hy : ev e y = some (.int k b) := by exact rfl) (hc : cmpI o a b = some c := by exact rfl) (hd : Nat.ble (d + 1) n.sz = true := by exact rfl) : XD P n ops Q (i :: rest) J A e :=
  X_cmp hi hg hx hy hc hd hk

theorem Y_str {o : BinOp} {t t' : TypeId} {x y : Operand} {a b : ByteArray} {c : Bool} (hk : XD P n ops Q rest J A ((d, .bool c) :: e)) (hi : ops[i]? = some ⟨some d, .binOp o t x y t', ty, pos, af, gd⟩ := by exact rfl) (hg : want ops e gd = some true := by exact rfl) (hx : ev e x = some (.string a) := by exact rfl) (hy : ev e y = some (.string b) := by exact rfl) (hc : cmpS o a b = some c := by exact rfl) (hd : Nat.ble (d + 1) n.sz = true := by exact rfl) : XD P n ops Q (i :: rest) J A e :=
  X_str hi hg hx hy hc hd hk

theorem Y_skip  (hk : XD P n ops Q rest J A ((d, undef) :: e)) (hi : ops[i]? = some ⟨some d, op, ty, pos, af, gd⟩ := by exact rfl) (hg : want ops e gd = some false := by exact rfl) (hd : Nat.ble (d + 1) n.sz = true := by exact rfl) : XD P n ops Q (i :: rest) J A e :=
  X_skip hi hg hd hk

theorem Y_skip0  (hk : XD P n ops Q rest J A e) (hi : ops[i]? = some ⟨Option.none, op, ty, pos, af, gd⟩ := by exact rfl) (hg : want ops e gd = some false := by exact rfl) : XD P n ops Q (i :: rest) J A e :=
  X_skip0 hi hg hk

theorem Y_fieldAddr {s : TypeId} {x : Operand} {f k b off : Nat} (hf : foff P s f = some k) (hk : XD P n ops Q rest J A ((d, .pointer (some ⟨b, off + k, none⟩)) :: e)) (hi : ops[i]? = some ⟨some d, .fieldAddr s x f, ty, pos, af, gd⟩ := by exact rfl) (hg : want ops e gd = some true := by exact rfl) (hx : ev e x = some (.pointer (some ⟨b, off, none⟩)) := by exact rfl) (hd : Nat.ble (d + 1) n.sz = true := by exact rfl) : XD P n ops Q (i :: rest) J A e :=
  X_fieldAddr hi hg hx hf hd hk

theorem Y_load {t : TypeId} {x : Operand} {b off m : Nat} {agg : Bool} {r r' : Segs} {T : TypeId} {v : Value} {MJ : Mem} {HJ : Hp} (hl : lay P t = some (agg, m)) (hk : XD P n ops Q rest (St MJ HJ) A ((d, v) :: e)) (hi : ops[i]? = some ⟨some d, .load t x, ty, pos, af, gd⟩ := by exact rfl) (hg : want ops e gd = some true := by exact rfl) (hx : ev e x = some (.pointer (some ⟨b, off, none⟩)) := by exact rfl) (hb : (b, rowO r T) ∈ HJ := by repeat first | exact List.Mem.head _ | refine List.Mem.tail _ ?_ | refine List.mem_append_right _ ?_) (hs : Segs.sub r off m = some r' := by exact rfl) (hv : readAs agg r' = some v := by exact rfl) (hd : Nat.ble (d + 1) n.sz = true := by exact rfl) : XD P n ops Q (i :: rest) (St MJ HJ) A e :=
  X_load hi hg hx hb hl hs hv hd hk

theorem Y_alloc {T : TypeId} {z : Value} {r : Segs} (hz : zeroOf P T = some z) (hk : ∀ b, XD P n ops Q rest J ⟨M, (b, rowO r T) :: H⟩ ((d, .pointer (some ⟨b, 0, none⟩)) :: e)) (hi : ops[i]? = some ⟨some d, .alloc T, ty, pos, af, gd⟩ := by exact rfl) (hg : want ops e gd = some true := by exact rfl) (hp : Parts z r := by constructor) (hd : Nat.ble (d + 1) n.sz = true := by exact rfl) : XD P n ops Q (i :: rest) J ⟨M, H⟩ e :=
  X_alloc hi hg hz hp hd hk

theorem Y_box {T : TypeId} {x : Operand} {v : Value} {r : Segs} (hk : ∀ b, XD P n ops Q rest J ⟨M, (b, rowO r T) :: H⟩ ((d, .pointer (some ⟨b, 0, none⟩)) :: e)) (hi : ops[i]? = some ⟨some d, .box T x, ty, pos, af, gd⟩ := by exact rfl) (hg : want ops e gd = some true := by exact rfl) (hx : ev e x = some v := by exact rfl) (hp : Parts v r := by constructor) (hd : Nat.ble (d + 1) n.sz = true := by exact rfl) : XD P n ops Q (i :: rest) J ⟨M, H⟩ e :=
  X_box hi hg hx hp hd hk

theorem Y_store {t : TypeId} {x y : Operand} {b off m : Nat} {agg : Bool} {r q u : Segs} {T : TypeId} {v : Value} (hl : lay P t = some (agg, m)) (hk : XD P n ops Q rest (St M H') ⟨M, H'⟩ e) (hi : ops[i]? = some ⟨none, .store t x y, ty, pos, af, gd⟩ := by exact rfl) (hg : want ops e gd = some true := by exact rfl) (hx : ev e x = some (.pointer (some ⟨b, off, none⟩)) := by exact rfl) (hy : ev e y = some v := by exact rfl) (hp : Parts v q := by constructor) (hq : flat q := by (try simp only [cat, List.cons_append, List.nil_append, List.append_nil]); (repeat (first | exact flat_nil | refine flat_id ?_ | (refine flat_one ?_ ?_; rfl))); done) (hu : Upd b (rowO r T) (rowO u T) H H' := by repeat first | exact Upd.head | apply Upd.tail | apply Upd.over) (hn : Segs.len q = m := by exact rfl) (hs : Segs.put r off q = some u := by exact rfl) (hnw : n.wrs.contains i = false := by rfl) : XD P n ops Q (i :: rest) J ⟨M, H⟩ e :=
  X_store hi hg hx hy hp hq hu hl hn hs hk hnw

theorem Y_len_str {t : Nat} {x : Operand} {s : ByteArray} {ats : Array TypeId} (ht : P.underlying t = some .string) (hk : XD P n ops Q rest J A ((d, .int .i64 (s.size : Int)) :: e)) (hi : ops[i]? = some ⟨some d, .call ⟨.builtin .len, #[x], ats⟩, ty, pos, af, gd⟩ := by exact rfl) (hg : want ops e gd = some true := by exact rfl) (hx : ev e x = some (.string s) := by exact rfl) (hat : ats[0]? = some t := by exact rfl) (hd : Nat.ble (d + 1) n.sz = true := by exact rfl) : XD P n ops Q (i :: rest) J A e :=
  X_len_str hi hg hx hat ht hd hk

theorem Y_len_sl {t E sz by_ : Nat} {x : Operand} {a : Option Addr} {l c : Nat} {ats : Array TypeId} (ht : slOf P t = some (E, sz, by_)) (hk : XD P n ops Q rest J A ((d, .int .i64 (l : Int)) :: e)) (hi : ops[i]? = some ⟨some d, .call ⟨.builtin .len, #[x], ats⟩, ty, pos, af, gd⟩ := by exact rfl) (hg : want ops e gd = some true := by exact rfl) (hx : ev e x = some (.slice a l c) := by exact rfl) (hat : ats[0]? = some t := by exact rfl) (hd : Nat.ble (d + 1) n.sz = true := by exact rfl) : XD P n ops Q (i :: rest) J A e :=
  X_len_sl hi hg hx hat ht hd hk

theorem Y_field {s T : TypeId} {x : Operand} {f off m : Nat} {agg : Bool} {r r' : Segs} {v : Value} (hf : fld P s f = some (off, T)) (hl : lay P T = some (agg, m)) (hk : XD P n ops Q rest J A ((d, v) :: e)) (hi : ops[i]? = some ⟨some d, .field s x f, ty, pos, af, gd⟩ := by exact rfl) (hg : want ops e gd = some true := by exact rfl) (hx : ev e x = some (aggV r) := by exact rfl) (hs : Segs.sub r off m = some r' := by exact rfl) (hv : readAs agg r' = some v := by exact rfl) (hd : Nat.ble (d + 1) n.sz = true := by exact rfl) : XD P n ops Q (i :: rest) J A e :=
  X_field hi hg hx hf hl hs hv hd hk

theorem Y_nil {o : BinOp} {t t' : TypeId} {x : Operand} {v z : Value} {D : TypeDesc} {c : Bool} (hu : P.underlying t = some D) (hk : XD P n ops Q rest J A ((d, .bool (eqX o c)) :: e)) (hi : ops[i]? = some ⟨some d, .binOp o t x (.const z) t', ty, pos, af, gd⟩ := by exact rfl) (hg : want ops e gd = some true := by exact rfl) (ho : isEq o = true := by exact rfl) (hx : ev e x = some v := by exact rfl) (hn : nilOf D v = some (c, z) := by exact rfl) (hd : Nat.ble (d + 1) n.sz = true := by exact rfl) : XD P n ops Q (i :: rest) J A e :=
  X_nil hi hg ho hx hu hn hd hk

theorem Y_iface {t : TypeId} {x : Operand} {v : Value} {D : TypeDesc} (hu : P.underlying t = some D) (hk : XD P n ops Q rest J A ((d, .iface t v) :: e)) (hi : ops[i]? = some ⟨some d, .makeInterface t x, ty, pos, af, gd⟩ := by exact rfl) (hg : want ops e gd = some true := by exact rfl) (hx : ev e x = some v := by exact rfl) (hD : (match D with | .interface _ => false | _ => true) = true := by exact rfl) (hd : Nat.ble (d + 1) n.sz = true := by exact rfl) : XD P n ops Q (i :: rest) J A e :=
  X_iface hi hg hx hu hD hd hk
end
end Go.Esp
/-
  The program's structs: what their cells are.
-/
set_option linter.unusedSimpArgs false
set_option linter.unusedVariables false
set_option linter.unnecessarySimpa false
set_option maxRecDepth 8000
set_option maxHeartbeats 1000000
namespace Go.Esp
structure AnswerV where
  code : Int
  version : Int
  has : Bool
  val : ByteArray
  deriving DecidableEq

def AnswerV.segs : AnswerV → Segs
  | ⟨a1, a2, a3, a4⟩ => [.one (.int .i64 a1), .one (.int .u64 a2), .one (.bool a3), .one (.string a4)]
theorem AnswerV.eta (x : AnswerV) : (⟨x.code, x.version, x.has, x.val⟩ : AnswerV) = x := rfl
def AnswerV.enc (x : AnswerV) : Value := aggV x.segs
def AnswerV.zero : AnswerV := ⟨0, 0, false, ⟨#[]⟩⟩
theorem AnswerV.len (x : AnswerV) : Segs.len x.segs = 4 := by
  obtain ⟨a1, a2, a3, a4⟩ := x
  simp only [AnswerV.segs, Segs.len, Seg.len, idSeg]
theorem AnswerV.flat (x : AnswerV) : Esp.flat x.segs := by
  obtain ⟨a1, a2, a3, a4⟩ := x
  simp only [AnswerV.segs]
  refine flat_one rfl ?_
  refine flat_one rfl ?_
  refine flat_one rfl ?_
  refine flat_one rfl ?_
  exact flat_nil
theorem AnswerV.inj {x y : AnswerV} : Segs.cells x.segs = Segs.cells y.segs ↔ x = y := by
  obtain ⟨a1, a2, a3, a4⟩ := x
  obtain ⟨b1, b2, b3, b4⟩ := y
  simp only [AnswerV.segs, cells_one, cells_id, Value.int.injEq, Value.bool.injEq, Value.string.injEq, true_and, and_true, and_assoc, AnswerV.mk.injEq]
structure MarkV where
  client : Int
  req : Int
  answer : AnswerV
  deriving DecidableEq

def MarkV.segs : MarkV → Segs
  | ⟨a1, a2, ⟨a3, a4, a5, a6⟩⟩ => [.one (.int .i64 a1), .one (.int .u64 a2), .one (.int .i64 a3), .one (.int .u64 a4), .one (.bool a5), .one (.string a6)]
theorem MarkV.eta (x : MarkV) : (⟨x.client, x.req, x.answer⟩ : MarkV) = x := rfl
def MarkV.enc (x : MarkV) : Value := aggV x.segs
def MarkV.zero : MarkV := ⟨0, 0, ⟨0, 0, false, ⟨#[]⟩⟩⟩
theorem MarkV.len (x : MarkV) : Segs.len x.segs = 6 := by
  obtain ⟨a1, a2, ⟨a3, a4, a5, a6⟩⟩ := x
  simp only [MarkV.segs, Segs.len, Seg.len, idSeg]
theorem MarkV.flat (x : MarkV) : Esp.flat x.segs := by
  obtain ⟨a1, a2, ⟨a3, a4, a5, a6⟩⟩ := x
  simp only [MarkV.segs]
  refine flat_one rfl ?_
  refine flat_one rfl ?_
  refine flat_one rfl ?_
  refine flat_one rfl ?_
  refine flat_one rfl ?_
  refine flat_one rfl ?_
  exact flat_nil
theorem MarkV.inj {x y : MarkV} : Segs.cells x.segs = Segs.cells y.segs ↔ x = y := by
  obtain ⟨a1, a2, ⟨a3, a4, a5, a6⟩⟩ := x
  obtain ⟨b1, b2, ⟨b3, b4, b5, b6⟩⟩ := y
  simp only [MarkV.segs, cells_one, cells_id, Value.int.injEq, Value.bool.injEq, Value.string.injEq, true_and, and_true, and_assoc, MarkV.mk.injEq, AnswerV.mk.injEq]
structure CellV where
  version : Int
  has : Bool
  val : ByteArray
  marks : (Sl MarkV)

def CellV.segs : CellV → Segs
  | ⟨a1, a2, a3, a4⟩ => [.one (.int .u64 a1), .one (.bool a2), .one (.string a3), .one (a4).val]
theorem CellV.eta (x : CellV) : (⟨x.version, x.has, x.val, x.marks⟩ : CellV) = x := rfl
def CellV.enc (x : CellV) : Value := aggV x.segs
def CellV.zero : CellV := ⟨0, false, ⟨#[]⟩, ⟨none, 0, []⟩⟩
theorem CellV.len (x : CellV) : Segs.len x.segs = 4 := by
  obtain ⟨a1, a2, a3, a4⟩ := x
  simp only [CellV.segs, Segs.len, Seg.len, idSeg]
theorem CellV.flat (x : CellV) : Esp.flat x.segs := by
  obtain ⟨a1, a2, a3, a4⟩ := x
  simp only [CellV.segs]
  refine flat_one rfl ?_
  refine flat_one rfl ?_
  refine flat_one rfl ?_
  refine flat_one (Sl.one _) ?_
  exact flat_nil
structure CellV.ok (M : Mem) (x : CellV) : Prop where
  h0 : SlK M MarkV.segs 6 x.marks

theorem CellV.ok.mono {M M' : Mem} {x : CellV} (h : CellV.ok M x) (hm : M.le M') : CellV.ok M' x := ⟨h.h0.mono hm⟩
theorem CellV.zero_ok (M : Mem) : CellV.ok M CellV.zero := ⟨SlK.nil⟩
structure HeldV where
  key : Plc
  cell : CellV

def HeldV.segs : HeldV → Segs
  | ⟨a1, ⟨a2, a3, a4, a5⟩⟩ => [idSeg a1, .one (.int .u64 a2), .one (.bool a3), .one (.string a4), .one (a5).val]
theorem HeldV.eta (x : HeldV) : (⟨x.key, x.cell⟩ : HeldV) = x := rfl
def HeldV.enc (x : HeldV) : Value := aggV x.segs
def HeldV.zero : HeldV := ⟨0, ⟨0, false, ⟨#[]⟩, ⟨none, 0, []⟩⟩⟩
theorem HeldV.len (x : HeldV) : Segs.len x.segs = 24 := by
  obtain ⟨a1, ⟨a2, a3, a4, a5⟩⟩ := x
  simp only [HeldV.segs, Segs.len, Seg.len, idSeg]
theorem HeldV.flat (x : HeldV) : Esp.flat x.segs := by
  obtain ⟨a1, ⟨a2, a3, a4, a5⟩⟩ := x
  simp only [HeldV.segs]
  refine flat_id ?_
  refine flat_one rfl ?_
  refine flat_one rfl ?_
  refine flat_one rfl ?_
  refine flat_one (Sl.one _) ?_
  exact flat_nil
structure HeldV.ok (M : Mem) (x : HeldV) : Prop where
  h0 : CellV.ok M x.cell

theorem HeldV.ok.mono {M M' : Mem} {x : HeldV} (h : HeldV.ok M x) (hm : M.le M') : HeldV.ok M' x := ⟨h.h0.mono hm⟩
theorem HeldV.zero_ok (M : Mem) : HeldV.ok M HeldV.zero := ⟨CellV.zero_ok M⟩
structure PeerV where
  addr : Int
  id : Plc
  deriving DecidableEq

def PeerV.segs : PeerV → Segs
  | ⟨a1, a2⟩ => [.one (.int .i64 a1), idSeg a2]
theorem PeerV.eta (x : PeerV) : (⟨x.addr, x.id⟩ : PeerV) = x := rfl
def PeerV.enc (x : PeerV) : Value := aggV x.segs
def PeerV.zero : PeerV := ⟨0, 0⟩
theorem PeerV.len (x : PeerV) : Segs.len x.segs = 21 := by
  obtain ⟨a1, a2⟩ := x
  simp only [PeerV.segs, Segs.len, Seg.len, idSeg]
theorem PeerV.flat (x : PeerV) : Esp.flat x.segs := by
  obtain ⟨a1, a2⟩ := x
  simp only [PeerV.segs]
  refine flat_one rfl ?_
  refine flat_id ?_
  exact flat_nil
theorem PeerV.inj {x y : PeerV} : Segs.cells x.segs = Segs.cells y.segs ↔ x = y := by
  obtain ⟨a1, a2⟩ := x
  obtain ⟨b1, b2⟩ := y
  simp only [PeerV.segs, cells_one, cells_id, Value.int.injEq, Value.bool.injEq, Value.string.injEq, true_and, and_true, and_assoc, PeerV.mk.injEq]
theorem FitAnswerV (x : AnswerV) : Fits [.i .i64, .i .u64, .b, .s] (Segs.cells x.segs) := by
  obtain ⟨a1, a2, a3, a4⟩ := x
  simp only [AnswerV.segs]
  refine fit_one (by first | exact rfl | exact trivial) ?_
  refine fit_one (by first | exact rfl | exact trivial) ?_
  refine fit_one (by first | exact rfl | exact trivial) ?_
  refine fit_one (by first | exact rfl | exact trivial) ?_
  exact fit_nil
theorem FitMarkV (x : MarkV) : Fits [.i .i64, .i .u64, .i .i64, .i .u64, .b, .s] (Segs.cells x.segs) := by
  obtain ⟨a1, a2, ⟨a3, a4, a5, a6⟩⟩ := x
  simp only [MarkV.segs]
  refine fit_one (by first | exact rfl | exact trivial) ?_
  refine fit_one (by first | exact rfl | exact trivial) ?_
  refine fit_one (by first | exact rfl | exact trivial) ?_
  refine fit_one (by first | exact rfl | exact trivial) ?_
  refine fit_one (by first | exact rfl | exact trivial) ?_
  refine fit_one (by first | exact rfl | exact trivial) ?_
  exact fit_nil
theorem FitPeerV (x : PeerV) : Fits [.i .i64, .i .u8, .i .u8, .i .u8, .i .u8, .i .u8, .i .u8, .i .u8, .i .u8, .i .u8, .i .u8, .i .u8, .i .u8, .i .u8, .i .u8, .i .u8, .i .u8, .i .u8, .i .u8, .i .u8, .i .u8] (Segs.cells x.segs) := by
  obtain ⟨a1, a2⟩ := x
  simp only [PeerV.segs]
  refine fit_one (by first | exact rfl | exact trivial) ?_
  refine fit_id ?_
  exact fit_nil
/-- Less of what is ours. -/
theorem St.c {M : Mem} {H H' : Hp} {w : World} (h : St M H w) (hc : ∀ zz, Esp.cnt zz H' ≤ Esp.cnt zz H := by intro zz; first | exact Nat.le_refl _ | (simp only [cnt_app, cnt_cons, cnt_nil, cat, List.append_eq, List.append_assoc, List.cons_append, List.nil_append, List.append_nil]; omega) | (simp only [cnt_app, cnt_cons, cnt_nil, cat, List.append_eq, List.append_assoc, List.cons_append, List.nil_append, List.append_nil, AnswerV.segs, MarkV.segs, CellV.segs, HeldV.segs, PeerV.segs]; omega)) : St M H' w := h.cnt hc
end Go.Esp
/-
  The program's structs: what data of their types are like.
-/
set_option linter.unusedSimpArgs false
set_option linter.unusedVariables false
set_option linter.unnecessarySimpa false
set_option maxRecDepth 8000
set_option maxHeartbeats 1000000
namespace Go.Proofs.Ytbafnjniijodfaa
open Go.Esp

theorem Try.own : ownKnob Try.prog.godebug = none := by kernel_rfl
theorem Try.laidOut : laidOutB Try.prog = true := by kernel_rfl

theorem AnswerV_of_ty {M : Mem} {n : Nat} {R : Segs} (h : Ty Try.prog M n 68 R) : ∃ x : AnswerV, R = x.segs := by
  obtain ⟨k, Rs, rfl, hlen, hf⟩ := ty_struct Try.underlying68 h
  match Rs, hlen with
  | [r0, r1, r2, r3], _ =>
    obtain ⟨x0, rfl, _⟩ := ty_int Try.underlying25 (hf 0 _ r0 rfl rfl)
    obtain ⟨x1, rfl, _⟩ := ty_int Try.underlying34 (hf 1 _ r1 rfl rfl)
    obtain ⟨x2, rfl⟩ := ty_bool Try.underlying4 (hf 2 _ r2 rfl rfl)
    obtain ⟨x3, rfl, _⟩ := ty_str Try.underlying9 (hf 3 _ r3 rfl rfl)
    exact ⟨⟨x0, x1, x2, x3⟩, rfl⟩
theorem MarkV_of_ty {M : Mem} {n : Nat} {R : Segs} (h : Ty Try.prog M n 70 R) : ∃ x : MarkV, R = x.segs := by
  obtain ⟨k, Rs, rfl, hlen, hf⟩ := ty_struct Try.underlying70 h
  match Rs, hlen with
  | [r0, r1, r2], _ =>
    obtain ⟨x0, rfl, _⟩ := ty_int Try.underlying3 (hf 0 _ r0 rfl rfl)
    obtain ⟨x1, rfl, _⟩ := ty_int Try.underlying34 (hf 1 _ r1 rfl rfl)
    obtain ⟨x2, rfl⟩ := AnswerV_of_ty (hf 2 _ r2 rfl rfl)
    exact ⟨⟨x0, x1, x2⟩, rfl⟩
theorem sl_of_ty35 {M : Mem} {n : Nat} {R : Segs} (h : Ty Try.prog M n 35 R) : ∃ x : (Sl MarkV), R = [.one x.val] ∧ SlK M MarkV.segs 6 x := by
  have e : Try.prog.cellsOf 70 = 6 := by kernel_rfl
  obtain ⟨ad, rows, c, m, rfl, h2, h3, h5, h4⟩ := ty_sliceC Try.underlying35 (by rw [e]; decide) h
  obtain ⟨l, rfl, hl⟩ := rows_mapP (f := MarkV.segs) (p := fun y => True) (fun r hr => by
      obtain ⟨z9, h9⟩ := MarkV_of_ty (h4 r hr)
      exact ⟨z9, h9, trivial⟩)
  rw [e] at h2
  exact ⟨⟨ad, c, l⟩, by simp [Sl.val], ⟨h2, by simpa using h3, by simpa using h5⟩⟩
theorem CellV_of_ty {M : Mem} {n : Nat} {R : Segs} (h : Ty Try.prog M n 37 R) : ∃ x : CellV, R = x.segs ∧ CellV.ok M x := by
  obtain ⟨k, Rs, rfl, hlen, hf⟩ := ty_struct Try.underlying37 h
  match Rs, hlen with
  | [r0, r1, r2, r3], _ =>
    obtain ⟨x0, rfl, _⟩ := ty_int Try.underlying34 (hf 0 _ r0 rfl rfl)
    obtain ⟨x1, rfl⟩ := ty_bool Try.underlying4 (hf 1 _ r1 rfl rfl)
    obtain ⟨x2, rfl, _⟩ := ty_str Try.underlying9 (hf 2 _ r2 rfl rfl)
    obtain ⟨x3, rfl, kx3⟩ := sl_of_ty35 (hf 3 _ r3 rfl rfl)
    exact ⟨⟨x0, x1, x2, x3⟩, rfl, ⟨kx3⟩⟩
theorem id_of_ty33 {M : Mem} {n : Nat} {R : Segs} (h : Ty Try.prog M n 33 R) : ∃ x : Plc, R = [idSeg x] := by
  cases n with
  | zero => exact h.elim
  | succ m =>
    simp only [Ty, Try.underlying33, Try.underlying5] at h
    obtain ⟨f, rfl, hf⟩ := h (by kernel_rfl)
    obtain ⟨x, rfl⟩ := idV_of hf
    exact ⟨x, rfl⟩
theorem HeldV_of_ty {M : Mem} {n : Nat} {R : Segs} (h : Ty Try.prog M n 49 R) : ∃ x : HeldV, R = x.segs ∧ HeldV.ok M x := by
  obtain ⟨k, Rs, rfl, hlen, hf⟩ := ty_struct Try.underlying49 h
  match Rs, hlen with
  | [r0, r1], _ =>
    obtain ⟨x0, rfl⟩ := id_of_ty33 (hf 0 _ r0 rfl rfl)
    obtain ⟨x1, rfl, kx1⟩ := CellV_of_ty (hf 1 _ r1 rfl rfl)
    exact ⟨⟨x0, x1⟩, rfl, ⟨kx1⟩⟩
theorem PeerV_of_ty {M : Mem} {n : Nat} {R : Segs} (h : Ty Try.prog M n 54 R) : ∃ x : PeerV, R = x.segs := by
  obtain ⟨k, Rs, rfl, hlen, hf⟩ := ty_struct Try.underlying54 h
  match Rs, hlen with
  | [r0, r1], _ =>
    obtain ⟨x0, rfl, _⟩ := ty_int Try.underlying3 (hf 0 _ r0 rfl rfl)
    obtain ⟨x1, rfl⟩ := id_of_ty33 (hf 1 _ r1 rfl rfl)
    exact ⟨⟨x0, x1⟩, rfl⟩
theorem sl_of_ty22 {M : Mem} {n : Nat} {R : Segs} (h : Ty Try.prog M n 22 R) : ∃ x : (Sl PeerV), R = [.one x.val] ∧ SlK M PeerV.segs 21 x := by
  have e : Try.prog.cellsOf 54 = 21 := by kernel_rfl
  obtain ⟨ad, rows, c, m, rfl, h2, h3, h5, h4⟩ := ty_sliceC Try.underlying22 (by rw [e]; decide) h
  obtain ⟨l, rfl, hl⟩ := rows_mapP (f := PeerV.segs) (p := fun y => True) (fun r hr => by
      obtain ⟨z9, h9⟩ := PeerV_of_ty (h4 r hr)
      exact ⟨z9, h9, trivial⟩)
  rw [e] at h2
  exact ⟨⟨ad, c, l⟩, by simp [Sl.val], ⟨h2, by simpa using h3, by simpa using h5⟩⟩
theorem sl_of_ty31 {M : Mem} {n : Nat} {R : Segs} (h : Ty Try.prog M n 31 R) : ∃ x : (Sl HeldV), R = [.one x.val] ∧ SlK M HeldV.segs 24 x ∧ ∀ y ∈ x.l, HeldV.ok M y := by
  have e : Try.prog.cellsOf 49 = 24 := by kernel_rfl
  obtain ⟨ad, rows, c, m, rfl, h2, h3, h5, h4⟩ := ty_sliceC Try.underlying31 (by rw [e]; decide) h
  obtain ⟨l, rfl, hl⟩ := rows_mapP (f := HeldV.segs) (p := fun y => HeldV.ok M y) (fun r hr => by
      exact HeldV_of_ty (h4 r hr))
  rw [e] at h2
  exact ⟨⟨ad, c, l⟩, by simp [Sl.val], ⟨h2, by simpa using h3, by simpa using h5⟩, hl⟩
end Go.Proofs.Ytbafnjniijodfaa
/-
  What all laws of this seat share: the listed variable, as the row's condition has it.
-/
set_option linter.unusedSimpArgs false
set_option linter.unusedVariables false
set_option linter.unnecessarySimpa false
set_option maxRecDepth 8000
set_option maxHeartbeats 1000000
namespace Go.Proofs.Ytbafnjniijodfaa
open Go.Esp

theorem fn_of_fs {P : Program} {f : FuncId} {vs : List Value} {M : Mem} {R : Value → Prop} (h : Fs P f vs M R) : Esp.Fn P f vs M (fun _ v => R v) := fun H w hw =>
  (h H w hw).mono fun _ _ ⟨v, he, hs, hr⟩ => ⟨v, M, he, Mem.le.refl M, hs, hr⟩
theorem sl_of_ty23 {M : Mem} {n : Nat} {R : Segs} (h : Ty Try.prog M n 23 R) : ∃ x : (Sl (Sl HeldV)), R = [.one x.val] ∧ SlK M (fun x => [Seg.one (Sl.val x)]) 1 x ∧ ∀ y ∈ x.l, SlK M HeldV.segs 24 y ∧ ∀ y1 ∈ (y).l, HeldV.ok M y1 := by
  have e : Try.prog.cellsOf 31 = 1 := by kernel_rfl
  obtain ⟨ad, rows, c, m, rfl, h2, h3, h5, h4⟩ := ty_sliceC Try.underlying23 (by rw [e]; decide) h
  obtain ⟨l, rfl, hl⟩ := rows_mapP (f := (fun x => [Seg.one (Sl.val x)])) (p := fun y => SlK M HeldV.segs 24 y ∧ ∀ y1 ∈ (y).l, HeldV.ok M y1) (fun r hr => by
      obtain ⟨z, rfl, kz, lz⟩ := sl_of_ty31 (h4 r hr)
      exact ⟨z, rfl, kz, lz⟩)
  rw [e] at h2
  exact ⟨⟨ad, c, l⟩, by simp [Sl.val], ⟨h2, by simpa using h3, by simpa using h5⟩, hl⟩
theorem sl_of_ty52 {M : Mem} {n : Nat} {R : Segs} (h : Ty Try.prog M n 52 R) : ∃ x : (Sl Int), R = [.one x.val] ∧ SlK M (oneI .i64) 1 x := by
  have e : Try.prog.cellsOf 3 = 1 := by kernel_rfl
  obtain ⟨ad, rows, c, m, rfl, h2, h3, h5, h4⟩ := ty_sliceC Try.underlying52 (by rw [e]; decide) h
  obtain ⟨l, rfl, hl⟩ := rows_mapP (f := (oneI .i64)) (p := fun y => True) (fun r hr => by
      obtain ⟨z, rfl, _⟩ := ty_int Try.underlying3 (h4 r hr)
      exact ⟨z, rfl, trivial⟩)
  rw [e] at h2
  exact ⟨⟨ad, c, l⟩, by simp [Sl.val], ⟨h2, by simpa using h3, by simpa using h5⟩⟩
end Go.Proofs.Ytbafnjniijodfaa
/-
  Places compared byte by byte, and as numbers.
-/
set_option linter.unusedSimpArgs false
set_option linter.unusedVariables false
set_option linter.unnecessarySimpa false
namespace Go.Esp

theorem ofB_step {f g : Nat → Nat} (hf : ∀ i, f i < 256) (hg : ∀ i, g i < 256) {n : Nat} (h : ofB n f < ofB n g) : ofB (n + 1) f < ofB (n + 1) g := by
  have := hf n
  have := hg n
  simp only [ofB]
  omega

theorem ofB_mono {f g : Nat → Nat} (hf : ∀ i, f i < 256) (hg : ∀ i, g i < 256) {m : Nat} (h : ofB m f < ofB m g) : ∀ n, ofB (m + n) f < ofB (m + n) g
  | 0 => h
  | n + 1 => ofB_step hf hg (ofB_mono hf hg h n)

theorem less_of {a b : Plc} {k : Nat} (hk : k < 20) (h : ∀ j, j < k → idB a j = idB b j) (hlt : idB a k < idB b k) : a.toNat < b.toNat := by
  rw [← idB_toNat a, ← idB_toNat b]
  have h1 : ofB (k + 1) (idB a) < ofB (k + 1) (idB b) := by
    simp only [ofB, ofB_congr h]
    omega
  have := ofB_mono (idB_lt a) (idB_lt b) h1 (20 - (k + 1))
  rwa [show k + 1 + (20 - (k + 1)) = 20 by omega] at this

theorem less_at {a b : Plc} {k : Nat} (hk : k < 20) (h : ∀ j, j < k → idB a j = idB b j) (hne : ¬ idB a k = idB b k) : a.toNat < b.toNat ↔ idB a k < idB b k := by
  constructor
  · intro hlt
    rcases Nat.lt_or_ge (idB a k) (idB b k) with h1 | h1
    · exact h1
    · have := less_of hk (fun j hj => (h j hj).symm) (show idB b k < idB a k by omega)
      omega
  · exact less_of hk h

theorem plc_eq {a b : Plc} (h : ∀ j, j < 20 → idB a j = idB b j) : a = b := by
  apply BitVec.eq_of_toNat_eq
  rw [← idB_toNat a, ← idB_toNat b]
  exact ofB_congr h

/-- The twenty bytes. -/
def idBytes (x : Plc) : ByteArray := ⟨((List.range 20).map fun i => (idB x i).toUInt8).toArray⟩

theorem idBytes_size (x : Plc) : (idBytes x).size = 20 := by simp [idBytes, ByteArray.size]
theorem idBytes_at (x : Plc) {i : Nat} (h : i < 20) : (idBytes x)[i]! = (idB x i).toUInt8 := by
  have hs : i < (idBytes x).size := by rw [idBytes_size]; exact h
  rw [getElem!_pos (idBytes x) i hs]
  show (((List.range 20).map fun i => (idB x i).toUInt8).toArray)[i]'(by simpa using h) = _
  simp

theorem u8_inj {m n : Nat} (hm : m < 256) (hn : n < 256) : m.toUInt8 = n.toUInt8 ↔ m = n := by
  constructor
  · intro h
    have := congrArg UInt8.toNat h
    simp only [Nat.toUInt8, UInt8.toNat_ofNat'] at this
    omega
  · rintro rfl; rfl
theorem u8_lt {m n : Nat} (hm : m < 256) (hn : n < 256) : m.toUInt8 < n.toUInt8 ↔ m < n := by
  rw [UInt8.lt_iff_toNat_lt]
  simp only [Nat.toUInt8, UInt8.toNat_ofNat']
  omega

def cmpP (a b : Plc) : Int := if a.toNat < b.toNat then -1 else if a = b then 0 else 1

theorem cmp_bytes (a b : Plc) : Extern.BytealgCompare.cmp (idBytes a) (idBytes b) = cmpP a b := by
  unfold Extern.BytealgCompare.cmp cmpP
  rw [idBytes_size, idBytes_size, Nat.min_self]
  cases hf : (List.range 20).find? fun i => (idBytes a)[i]! != (idBytes b)[i]! with
  | none =>
    have h := List.find?_eq_none.1 hf
    have e : a = b := plc_eq fun j hj => by
      have := h j (List.mem_range.2 hj)
      rw [idBytes_at a hj, idBytes_at b hj] at this
      exact (u8_inj (idB_lt _ _) (idB_lt _ _)).1 (by simpa using this)
    subst e
    simp
  | some i =>
    have h1 := List.find?_some hf
    have hi : i < 20 := List.mem_range.1 (List.mem_of_find?_eq_some hf)
    have h2 : ∀ j, j < i → idB a j = idB b j := by
      intro j hj
      have hj' : j < 20 := by omega
      rw [List.find?_range_eq_some] at hf
      have := hf.2.2 j hj
      rw [idBytes_at a hj', idBytes_at b hj'] at this
      exact (u8_inj (idB_lt _ _) (idB_lt _ _)).1 (by simpa using this)
    rw [idBytes_at a hi, idBytes_at b hi] at h1
    have hne : ¬ idB a i = idB b i := fun e => by rw [e] at h1; simp at h1
    have hl := less_at hi h2 hne
    simp only [idBytes_at a hi, idBytes_at b hi, u8_lt (idB_lt a i) (idB_lt b i)]
    have hab : a ≠ b := fun e => hne (by rw [e])
    simp only [hl, hab, if_false]

section
variable {P : Program} {M : Mem} {H : Hp}

theorem run_loadBytes {x : Plc} {w : World} {b : Nat} {T : TypeId} (hb : w.heap[b]? = some (rowO [idSeg x] T)) : ∀ (n k : Nat) (acc : ByteArray), k + n = 20 → acc.data.toList = (List.range k).map (fun i => (idB x i).toUInt8) →
    (Extern.Bytes.loadBytes ⟨b, k, none⟩ n acc).run P w = .ok (idBytes x) w
  | 0, k, acc, hk, ha => by
    have : acc = idBytes x := by
      apply ByteArray.ext
      apply Array.ext'
      rw [ha]
      simp [idBytes, show k = 20 by omega]
    subst this
    rfl
  | n + 1, k, acc, hk, ha => by
    have hk' : k < 20 := by omega
    have hc : w.cell? ⟨b, k, none⟩ = some (.int .u8 (idB x k)) := by
      rw [cell_of_row hb]
      have := id_at' (x := x) hk'
      simpa using this
    unfold Extern.Bytes.loadBytes
    rw [Sem.run_bind, run_load, hc]
    show (Sem.run P _ w) = _
    have := run_loadBytes hb n (k + 1) (acc.push (idB x k).toUInt8) (by omega) (by simp [ByteArray.push, ha, List.range_succ])
    simpa [Addr.add_lit] using this

theorem run_compare {a b : Plc} {ba bb : Nat} {T U : TypeId} {w : World} (ha : w.heap[ba]? = some (rowO [idSeg a] T)) (hb : w.heap[bb]? = some (rowO [idSeg b] U)) :
    (Extern.BytealgCompare.compare #[.slice (some ⟨ba, 0, none⟩) 20 20, .slice (some ⟨bb, 0, none⟩) 20 20]).run P w = .ok (.int .i64 (cmpP a b)) w := by
  have h1 : (Extern.Bytes.bytesOf (.slice (some ⟨ba, 0, none⟩) 20 20)).run P w = .ok (idBytes a) w := run_loadBytes ha 20 0 .empty rfl (by rfl)
  have h2 : (Extern.Bytes.bytesOf (.slice (some ⟨bb, 0, none⟩) 20 20)).run P w = .ok (idBytes b) w := run_loadBytes hb 20 0 .empty rfl (by rfl)
  show (do let u ← Extern.Bytes.bytesOf (.slice (some ⟨ba, 0, none⟩) 20 20); let v ← Extern.Bytes.bytesOf (.slice (some ⟨bb, 0, none⟩) 20 20); pure (goInt (Extern.BytealgCompare.cmp u v)) : Sem Value).run P w = _
  rw [run_bind_ok h1, run_bind_ok h2, cmp_bytes]
  rfl
end
end Go.Esp
/-
  Circles of peers, in plain Lean.
-/
set_option linter.unusedSimpArgs false
set_option linter.unusedVariables false
set_option linter.unnecessarySimpa false
namespace Go.Esp

def LessP (a b : Plc) : Prop := a.toNat < b.toNat
instance (a b : Plc) : Decidable (LessP a b) := by unfold LessP; exact inferInstance
theorem cmpP_neg {a b : Plc} : cmpP a b < 0 ↔ LessP a b := by
  unfold cmpP LessP
  split
  · rename_i h; simp [h]
  · rename_i h
    split <;> simp [h]

def CircOk (l : List PeerV) : Prop := (∀ p ∈ l, 0 ≤ p.addr ∧ p.addr ≤ 999) ∧ (l.map PeerV.addr).Nodup ∧ l.Pairwise (fun p q => LessP p.id q.id)
instance (l : List PeerV) : Decidable (CircOk l) := by unfold CircOk; exact inferInstance
def IsCircle (l : List PeerV) : Prop := (1 ≤ l.length ∧ l.length ≤ 16) ∧ CircOk l
instance (l : List PeerV) : Decidable (IsCircle l) := by unfold IsCircle; exact inferInstance

theorem circ_pre {l : List PeerV} (h : CircOk l) (k : Nat) : CircOk (l.take k) :=
  ⟨fun p hp => h.1 p (List.mem_of_mem_take hp), h.2.1.sublist ((List.take_sublist k l).map _), h.2.2.sublist (List.take_sublist k l)⟩

theorem circ_take {l : List PeerV} {k : Nat} (hk : k < l.length) : CircOk (l.take (k + 1)) ↔ CircOk (l.take k) ∧ (0 ≤ l[k].addr ∧ l[k].addr ≤ 999) ∧ l[k].addr ∉ (l.take k).map PeerV.addr ∧ (∀ h : 0 < k, LessP (l[k - 1]'(by omega)).id l[k].id) := by
  have e : l.take (k + 1) = l.take k ++ [l[k]] := by rw [List.take_add_one, List.getElem?_eq_getElem hk]; rfl
  rw [e]
  unfold CircOk
  simp only [List.mem_append, List.mem_singleton, List.map_append, List.map_cons, List.map_nil, List.nodup_append, List.pairwise_append, List.pairwise_singleton, List.nodup_cons, List.not_mem_nil, not_false_eq_true, List.nodup_nil, and_true, true_and]
  constructor
  · rintro ⟨h1, ⟨h2, h3⟩, h4, h5⟩
    refine ⟨⟨fun p hp => h1 p (.inl hp), h2, h4⟩, h1 _ (.inr rfl), fun hm => h3 _ hm _ rfl rfl, fun h0 => ?_⟩
    refine h5 _ ?_ _ rfl
    rw [List.mem_take_iff_getElem]
    exact ⟨k - 1, by omega, rfl⟩
  · rintro ⟨⟨h1, h2, h3⟩, h4, h5, h6⟩
    refine ⟨fun p hp => ?_, ⟨h2, fun a ha b hb => ?_⟩, h3, fun p hp q hq => ?_⟩
    · rcases hp with hp | rfl
      · exact h1 p hp
      · exact h4
    · subst hb; intro e; subst e; exact h5 ha
    · subst hq
      rw [List.mem_take_iff_getElem] at hp
      obtain ⟨j, hj, rfl⟩ := hp
      have hjk : j < k := by omega
      have hlast := h6 (by omega)
      rcases Nat.lt_or_ge j (k - 1) with h | h
      · have := (List.pairwise_iff_getElem.1 h3) j (k - 1) (by simp; omega) (by simp; omega) h
        simp only [List.getElem_take] at this
        exact Nat.lt_trans this hlast
      · have : j = k - 1 := by omega
        subst this; exact hlast

theorem mem_map_take {l : List PeerV} {k j : Nat} (hj : j < k) (hk : k ≤ l.length) : (l[j]'(by omega)).addr ∈ (l.take k).map PeerV.addr := by
  refine List.mem_map.2 ⟨l[j]'(by omega), ?_, rfl⟩
  rw [List.mem_take_iff_getElem]
  exact ⟨j, by omega, rfl⟩

theorem not_mem_step {l : List PeerV} {a : Int} {j : Nat} (hj : j < l.length) (h : a ∉ (l.take j).map PeerV.addr) (hne : ¬ l[j].addr = a) : a ∉ (l.take (j + 1)).map PeerV.addr := by
  rw [take_map_succ _ hj]
  intro hm
  rcases List.mem_append.1 hm with hm | hm
  · exact h hm
  · exact hne (List.mem_singleton.1 hm).symm

/-- Does the i-th peer not stand ahead of a place? -/
def pO (l : List PeerV) (x : Plc) (i : Nat) : Bool := match l[i]? with
  | some p => decide (¬ LessP p.id x)
  | none => true
theorem pO_at {l : List PeerV} {x : Plc} {i : Nat} (h : i < l.length) : pO l x i = decide (¬ LessP l[i].id x) := by
  unfold pO; rw [List.getElem?_eq_getElem h]

theorem pO_mono {l : List PeerV} {x : Plc} (h : CircOk l) (i j : Nat) (hij : i ≤ j) (hj : j < l.length) (hp : pO l x i = true) : pO l x j = true := by
  rw [pO_at (by omega)] at hp ⊢
  simp only [decide_eq_true_eq] at hp ⊢
  rcases Nat.lt_or_ge i j with h1 | h1
  · have := (List.pairwise_iff_getElem.1 h.2.2) i j (by omega) hj h1
    unfold LessP at *
    omega
  · obtain rfl : i = j := by omega
    exact hp

/-- The owner of a place: the first peer that does not stand ahead of it, or the first one of all. -/
def ownerI (l : List PeerV) (x : Plc) : Nat := firstP (pO l x) l.length % l.length
theorem ownerI_lt {l : List PeerV} {x : Plc} (h : 0 < l.length) : ownerI l x < l.length := Nat.mod_lt _ h
theorem ownerI_at {l : List PeerV} {x : Plc} {k : Nat} (hk : k < l.length) (h1 : ∀ j, j < k → pO l x j = false) (h2 : pO l x k = true) : ownerI l x = k := by
  unfold ownerI
  rw [firstP_at (by omega) h1 (fun _ => h2), Nat.mod_eq_of_lt hk]
theorem ownerI_none {l : List PeerV} {x : Plc} (h1 : ∀ j, j < l.length → pO l x j = false) : ownerI l x = 0 := by
  unfold ownerI
  rw [firstP_at (Nat.le_refl _) h1 (fun h => by omega), Nat.mod_self]

def ofII (r : Int × Int) : Value := .tuple #[.int .i64 r.1, .int .i64 r.2]
def ownerR (l : List PeerV) (x : Plc) : Int × Int := if IsCircle l then ((ownerI l x : Nat), 0) else (0, 1)
end Go.Esp
/-
  Places on the ring: sums, differences, powers, byte by byte; what lies between two.
-/
set_option linter.unusedSimpArgs false
set_option linter.unusedVariables false
set_option linter.unnecessarySimpa false
namespace Go.Esp

/-- The last k bytes are those of x, all ahead are 0. -/
def lastV (x : Plc) (k : Nat) : Vector Value 20 := Vector.ofFn fun i : Fin 20 => if 20 ≤ i.val + k then .int .u8 (idB x i.val) else .int .u8 0
theorem lastV_get (x : Plc) (k : Nat) {i : Nat} (h : i < 20) : (lastV x k)[i] = if 20 ≤ i + k then .int .u8 (idB x i) else .int .u8 0 := by
  unfold lastV; rw [Vector.getElem_ofFn]
theorem lastV_none (x : Plc) : lastV x 0 = Vector.replicate 20 (.int .u8 0) := by
  apply Vector.ext; intro i hi
  rw [lastV_get x 0 hi, if_neg (by omega), Vector.getElem_replicate]
theorem lastV_none' (x : Plc) : lastV x 0 = idV 0 := by
  apply Vector.ext; intro i hi
  rw [lastV_get x 0 hi, if_neg (by omega), idV_get _ hi]; simp [idB]
theorem lastV_all (x : Plc) : lastV x 20 = idV x := by
  apply Vector.ext; intro i hi
  rw [lastV_get x 20 hi, if_pos (by omega), idV_get _ hi]
theorem lastV_step (x : Plc) {k : Nat} (h : k < 20) {v : Int} (hv : v = (idB x (19 - k) : Nat)) : (lastV x k).set (19 - k) (.int .u8 v) = lastV x (k + 1) := by
  subst hv
  apply Vector.ext; intro i hi
  rw [lastV_get x (k + 1) hi]
  by_cases e : i = 19 - k
  · subst e
    rw [Vector.getElem_set_self, if_pos (by omega)]
  · rw [Vector.getElem_set_ne _ _ (Ne.symm e), lastV_get x k hi]
    by_cases h1 : 20 ≤ i + k
    · rw [if_pos h1, if_pos (by omega)]
    · rw [if_neg h1, if_neg (by omega)]
/-- The first k bytes are those of x, all behind are those of y. -/
def frontV (x y : Plc) (k : Nat) : Vector Value 20 := Vector.ofFn fun i : Fin 20 => if i.val < k then .int .u8 (idB x i.val) else .int .u8 (idB y i.val)
theorem frontV_get (x y : Plc) (k : Nat) {i : Nat} (h : i < 20) : (frontV x y k)[i] = if i < k then .int .u8 (idB x i) else .int .u8 (idB y i) := by
  unfold frontV; rw [Vector.getElem_ofFn]
theorem frontV_none (x y : Plc) : frontV x y 0 = idV y := by
  apply Vector.ext; intro i hi
  rw [frontV_get x y 0 hi, if_neg (by omega), idV_get _ hi]
theorem frontV_all (x y : Plc) : frontV x y 20 = idV x := by
  apply Vector.ext; intro i hi
  rw [frontV_get x y 20 hi, if_pos (by omega), idV_get _ hi]
theorem frontV_step (x y : Plc) {k : Nat} (h : k < 20) {v : Int} (hv : v = (idB x k : Nat)) : (frontV x y k).set k (.int .u8 v) = frontV x y (k + 1) := by
  subst hv
  apply Vector.ext; intro i hi
  rw [frontV_get x y (k + 1) hi]
  by_cases e : i = k
  · subst e
    rw [Vector.getElem_set_self, if_pos (by omega)]
  · rw [Vector.getElem_set_ne _ _ (Ne.symm e), frontV_get x y k hi]
    by_cases h1 : i < k
    · rw [if_pos h1, if_pos (by omega)]
    · rw [if_neg h1, if_neg (by omega)]

theorem mod_step (A P : Nat) : A % (P * 256) = A % P + P * (A / P % 256) := Nat.mod_mul
theorem pow_step (k : Nat) : 256 ^ (k + 1) = 256 ^ k * 256 := Nat.pow_succ 256 k
theorem pow20 : (256 : Nat) ^ 20 = 2 ^ 160 := by decide
theorem idB_at (x : Plc) {k : Nat} (h : k < 20) : idB x (19 - k) = x.toNat / 256 ^ k % 256 := by
  unfold idB; rw [show 19 - (19 - k) = k by omega]
theorem pow_split {k : Nat} (h : k < 20) : ∃ C, 2 ^ 160 = 256 ^ k * (256 * C) := by
  refine ⟨256 ^ (19 - k), ?_⟩
  rw [← pow20, ← Nat.mul_assoc, ← pow_step, ← Nat.pow_add]; congr 1; omega
theorem big_div (X : Nat) {k : Nat} (h : k < 20) : X % 2 ^ 160 / 256 ^ k % 256 = X / 256 ^ k % 256 := by
  obtain ⟨C, hC⟩ := pow_split h
  rw [hC, Nat.mod_mul_right_div_self, Nat.mod_mul_right_mod]
theorem div_rest {P X r : Nat} (hr : r < P) : (P * X + r) / P = X := by
  rw [Nat.add_comm, Nat.add_mul_div_left _ _ (by omega), Nat.div_eq_of_lt hr, Nat.zero_add]

/-- What is carried behind k bytes of a sum. -/
def carryK (a b : Plc) (k : Nat) : Nat := (a.toNat % 256 ^ k + b.toNat % 256 ^ k) / 256 ^ k
theorem carryK_zero (a b : Plc) : carryK a b 0 = 0 := by unfold carryK; simp [Nat.mod_one]
theorem carryK_le (a b : Plc) (k : Nat) : carryK a b k ≤ 1 := by
  unfold carryK
  have hp : 0 < 256 ^ k := Nat.pow_pos (by decide)
  have h1 := Nat.mod_lt a.toNat hp
  have h2 := Nat.mod_lt b.toNat hp
  exact Nat.le_of_lt_succ ((Nat.div_lt_iff_lt_mul hp).2 (by omega))
theorem sum_step (a b : Plc) {k : Nat} (h : k < 20) :
    (carryK a b k + (idB a (19 - k) + idB b (19 - k))) % 256 = idB (a + b) (19 - k) ∧ (carryK a b k + (idB a (19 - k) + idB b (19 - k))) / 256 = carryK a b (k + 1) := by
  rw [idB_at a h, idB_at b h, idB_at (a + b) h, BitVec.toNat_add, big_div _ h]
  unfold carryK
  rw [pow_step, mod_step, mod_step]
  have hp : 0 < 256 ^ k := Nat.pow_pos (by decide)
  generalize 256 ^ k = P at hp ⊢
  have e1 := Nat.div_add_mod a.toNat P
  have e2 := Nat.div_add_mod b.toNat P
  generalize a.toNat = A at *
  generalize b.toNat = B at *
  have e3 : (A + B) / P = A / P + B / P + (A % P + B % P) / P := by
    conv => lhs; rw [← e1, ← e2]
    rw [show P * (A / P) + A % P + (P * (B / P) + B % P) = (A % P + B % P) + P * (A / P + B / P) by rw [Nat.mul_add]; omega, Nat.add_mul_div_left _ _ hp]
    omega
  constructor
  · rw [e3]; omega
  · rw [← Nat.div_div_eq_div_mul, show A % P + P * (A / P % 256) + (B % P + P * (B / P % 256)) = (A % P + B % P) + P * (A / P % 256 + B / P % 256) by rw [Nat.mul_add]; omega, Nat.add_mul_div_left _ _ hp]

/-- What is borrowed behind k bytes of a difference. -/
def borrowK (a b : Plc) (k : Nat) : Nat := if a.toNat % 256 ^ k < b.toNat % 256 ^ k then 1 else 0
theorem borrowK_zero (a b : Plc) : borrowK a b 0 = 0 := by unfold borrowK; simp [Nat.mod_one]
theorem borrowK_le (a b : Plc) (k : Nat) : borrowK a b k ≤ 1 := by unfold borrowK; split <;> omega
theorem sub_toNat (a b : Plc) : (a - b).toNat = (a.toNat + (2 ^ 160 - b.toNat)) % 2 ^ 160 := by
  rw [BitVec.toNat_sub]; congr 1; omega
theorem diff_step (a b : Plc) {k : Nat} (h : k < 20) :
    (256 + idB a (19 - k) - idB b (19 - k) - borrowK a b k) % 256 = idB (a - b) (19 - k) ∧ 1 - (256 + idB a (19 - k) - idB b (19 - k) - borrowK a b k) / 256 = borrowK a b (k + 1) := by
  have hb : b.toNat < 2 ^ 160 := b.isLt
  rw [idB_at a h, idB_at b h, idB_at (a - b) h, sub_toNat, big_div _ h]
  unfold borrowK
  rw [pow_step, mod_step, mod_step]
  have hp : 0 < 256 ^ k := Nat.pow_pos (by decide)
  obtain ⟨C, hC⟩ := pow_split h
  rw [hC] at hb ⊢
  generalize 256 ^ k = P at hp hb ⊢
  have e1 := Nat.div_add_mod a.toNat P
  have e2 := Nat.div_add_mod b.toNat P
  have m1 := Nat.mod_lt a.toNat hp
  have m2 := Nat.mod_lt b.toNat hp
  generalize a.toNat = A at *
  generalize b.toNat = B at *
  have hq : B / P < 256 * C := (Nat.div_lt_iff_lt_mul hp).2 (by rw [Nat.mul_comm]; exact hb)
  have e3 : (A + (P * (256 * C) - B)) / P = A / P + 256 * C - B / P - (if A % P < B % P then 1 else 0) := by
    generalize A / P = X at *
    generalize B / P = Y at *
    generalize A % P = r at *
    generalize B % P = s at *
    subst e1 e2
    obtain ⟨Z, hZ⟩ : ∃ Z, 256 * C = Y + 1 + Z := ⟨256 * C - Y - 1, by omega⟩
    have e4 : P * (256 * C) = P * Y + P + P * Z := by rw [hZ, Nat.mul_add, Nat.mul_add, Nat.mul_one]
    split
    · rw [show P * X + r + (P * (256 * C) - (P * Y + s)) = P * (X + Z) + (P + r - s) by rw [Nat.mul_add]; omega, div_rest (by omega)]; omega
    · rw [show P * X + r + (P * (256 * C) - (P * Y + s)) = P * (X + Z + 1) + (r - s) by rw [Nat.mul_add, Nat.mul_add]; omega, div_rest (by omega)]; omega
  constructor
  · rw [e3]
    generalize A / P = X at *
    generalize B / P = Y at *
    split <;> omega
  · clear e3
    generalize A / P = X at *
    generalize B / P = Y at *
    by_cases h1 : A % P < B % P
    · rw [if_pos h1]
      by_cases h2 : X % 256 ≤ Y % 256
      · rw [if_pos (by have := Nat.mul_le_mul_left P h2; omega)]; omega
      · have h3 : Y % 256 + 1 ≤ X % 256 := by omega
        have := Nat.mul_le_mul_left P h3
        rw [Nat.mul_add] at this
        rw [if_neg (by omega)]; omega
    · rw [if_neg h1]
      by_cases h2 : X % 256 < Y % 256
      · have h3 : X % 256 + 1 ≤ Y % 256 := by omega
        have := Nat.mul_le_mul_left P h3
        rw [Nat.mul_add] at this
        rw [if_pos (by omega)]; omega
      · have h3 : Y % 256 ≤ X % 256 := by omega
        have := Nat.mul_le_mul_left P h3
        rw [if_neg (by omega)]; omega

theorem not_byte (b : Plc) {i : Nat} (h : i < 20) : idB (~~~b) i = 255 - idB b i := by
  obtain ⟨k, hk, rfl⟩ : ∃ k, k < 20 ∧ i = 19 - k := ⟨19 - i, by omega, by omega⟩
  have hb : b.toNat < 2 ^ 160 := b.isLt
  rw [idB_at _ hk, idB_at _ hk, BitVec.toNat_not]
  obtain ⟨C, hC⟩ := pow_split hk
  rw [hC] at hb ⊢
  have hp : 0 < 256 ^ k := Nat.pow_pos (by decide)
  generalize 256 ^ k = P at hp hb ⊢
  have e2 := Nat.div_add_mod b.toNat P
  have m2 := Nat.mod_lt b.toNat hp
  generalize b.toNat = B at *
  have hq : B / P < 256 * C := (Nat.div_lt_iff_lt_mul hp).2 (by rw [Nat.mul_comm]; exact hb)
  have e3 : (P * (256 * C) - 1 - B) / P = 256 * C - 1 - B / P := by
    generalize B / P = Y at *
    generalize B % P = s at *
    subst e2
    obtain ⟨Z, hZ⟩ : ∃ Z, 256 * C = Y + 1 + Z := ⟨256 * C - Y - 1, by omega⟩
    have e4 : P * (256 * C) = P * Y + P + P * Z := by rw [hZ, Nat.mul_add, Nat.mul_add, Nat.mul_one]
    rw [show P * (256 * C) - 1 - (P * Y + s) = P * Z + (P - 1 - s) by omega, div_rest (by omega)]; omega
  rw [e3]
  generalize B / P = Y at *
  omega
theorem sub_as_add (a b : Plc) : a - b = a + ~~~b + 1 := by
  rw [BitVec.sub_eq_add_neg, BitVec.neg_eq_not_add, BitVec.add_assoc]; rfl

theorem pow_lt {k : Nat} (h : k < 160) : 2 ^ k < 2 ^ 160 := Nat.pow_lt_pow_right (by decide) h
/-- The k-th power of two. -/
def powP (k : Nat) : Plc := BitVec.ofNat 160 (2 ^ k)
theorem powP_nat {k : Nat} (h : k < 160) : (powP k).toNat = 2 ^ k := by
  unfold powP; rw [BitVec.toNat_ofNat, Nat.mod_eq_of_lt (pow_lt h)]
theorem powP_byte {k i : Nat} (h : k < 160) (hi : i < 20) : idB (powP k) i = if i = 19 - k / 8 then 2 ^ (k % 8) else 0 := by
  unfold idB
  rw [powP_nat h, show (256 : Nat) = 2 ^ 8 by decide, ← Nat.pow_mul]
  have hk := Nat.div_add_mod k 8
  split
  · rename_i e
    rw [show k = 8 * (19 - i) + k % 8 by omega, Nat.pow_add, Nat.mul_div_cancel_left _ (Nat.pow_pos (by decide)), show (8 * (19 - i) + k % 8) % 8 = k % 8 by omega]
    exact Nat.mod_eq_of_lt (Nat.pow_lt_pow_right (by decide) (by omega))
  · rename_i e
    rcases Nat.lt_or_ge (k / 8) (19 - i) with h1 | h1
    · rw [Nat.div_eq_of_lt (Nat.pow_lt_pow_right (by decide) (by omega))]
    · obtain ⟨d, hd⟩ : ∃ d, k = 8 * (19 - i) + 8 + d := ⟨k - 8 * (19 - i) - 8, by omega⟩
      rw [hd, Nat.add_assoc, Nat.pow_add, Nat.mul_div_cancel_left _ (Nat.pow_pos (by decide)), Nat.pow_add]
      exact Nat.mul_mod_right _ _
theorem powV {k : Nat} (h : k < 160) {v : Int} (hv : v = ((2 ^ (k % 8) : Nat) : Int)) : (idV 0).set (19 - k / 8) (.int .u8 v) = idV (powP k) := by
  subst hv
  apply Vector.ext; intro i hi
  rw [idV_get _ hi, powP_byte h hi]
  by_cases e : i = 19 - k / 8
  · subst e; rw [Vector.getElem_set_self, if_pos rfl]
  · rw [Vector.getElem_set_ne _ _ (Ne.symm e), idV_get _ hi, if_neg e]; simp [idB]

/-- Between a and b, clockwise, without both (with a = b: all but a). -/
def OpenP (a x b : Plc) : Prop := x ≠ a ∧ (a = b ∨ LessP (x - a) (b - a))
instance (a x b : Plc) : Decidable (OpenP a x b) := by unfold OpenP; exact inferInstance
def HalfP (a x b : Plc) : Prop := x = b ∨ OpenP a x b
instance (a x b : Plc) : Decidable (HalfP a x b) := by unfold HalfP; exact inferInstance
theorem plc_nat {a b : Plc} : a = b ↔ a.toNat = b.toNat := ⟨fun h => by rw [h], BitVec.eq_of_toNat_eq⟩
theorem open_arms (a x b : Plc) : OpenP a x b ↔ (if a = b then x ≠ a else if LessP a b then LessP a x ∧ LessP x b else LessP a x ∨ LessP x b) := by
  have ha : a.toNat < 2 ^ 160 := a.isLt
  have hb : b.toNat < 2 ^ 160 := b.isLt
  have hx : x.toNat < 2 ^ 160 := x.isLt
  unfold OpenP
  by_cases h1 : a = b
  · rw [if_pos h1]; simp [h1]
  · rw [if_neg h1]
    by_cases h2 : LessP a b
    · rw [if_pos h2]
      unfold LessP at *
      rw [sub_toNat, sub_toNat]
      simp only [ne_eq, plc_nat] at *
      omega
    · rw [if_neg h2]
      unfold LessP at *
      rw [sub_toNat, sub_toNat]
      simp only [ne_eq, plc_nat] at *
      omega

/-! One byte of a sum, of a difference, as the texts reckon it. -/
theorem sum_at (a b : Plc) {m : Nat} (h : m < 20) : ((carryK a b (20 - (m + 1)) : Nat) + ((idB a m : Nat) + (idB b m : Nat)) : Int) % 256 = (idB (a + b) m : Nat) ∧ ((carryK a b (20 - (m + 1)) : Nat) + ((idB a m : Nat) + (idB b m : Nat)) : Int) / 256 = (carryK a b (20 - m) : Nat) := by
  have h1 := sum_step a b (k := 19 - m) (by omega)
  rw [show 19 - (19 - m) = m by omega, show 19 - m + 1 = 20 - m by omega] at h1
  rw [show 20 - (m + 1) = 19 - m by omega]
  omega
theorem diff_at (a b : Plc) {m : Nat} (h : m < 20) : (256 + (idB a m : Nat) - (idB b m : Nat) - (borrowK a b (20 - (m + 1)) : Nat) : Int) % 256 = (idB (a - b) m : Nat) ∧ 1 - (256 + (idB a m : Nat) - (idB b m : Nat) - (borrowK a b (20 - (m + 1)) : Nat) : Int) / 256 = (borrowK a b (20 - m) : Nat) := by
  have h1 := diff_step a b (k := 19 - m) (by omega)
  have h2 := borrowK_le a b (19 - m)
  have h3 := idB_lt a m
  have h4 := idB_lt b m
  rw [show 19 - (19 - m) = m by omega, show 19 - m + 1 = 20 - m by omega] at h1
  rw [show 20 - (m + 1) = 19 - m by omega]
  omega
theorem lastV_put (x : Plc) {m : Nat} (h : m < 20) {v : Int} (hv : v = (idB x m : Nat)) : (lastV x (20 - (m + 1))).set m (.int .u8 v) = lastV x (20 - m) := by
  have := lastV_step x (k := 19 - m) (by omega) (v := v) (by rw [show 19 - (19 - m) = m by omega]; exact hv)
  simp only [show 19 - (19 - m) = m by omega, show 19 - m + 1 = 20 - m by omega] at this
  simpa only [show 20 - (m + 1) = 19 - m by omega] using this
theorem compl_all : ∀ x : Fin 256, bitsK .xor .u8 255 ((x.val : Nat) : Int) = some ((255 - x.val : Nat) : Int) := by decide +kernel
theorem compl8 {x : Nat} (h : x < 256) : bitsK .xor .u8 (if IntKind.u8.signed then -1 else IntKind.u8.max) (x : Int) = some ((255 - x : Nat) : Int) := compl_all ⟨x, h⟩
theorem one_seg : Value.agg #[.int .u8 0, .int .u8 0, .int .u8 0, .int .u8 0, .int .u8 0, .int .u8 0, .int .u8 0, .int .u8 0, .int .u8 0, .int .u8 0, .int .u8 0, .int .u8 0, .int .u8 0, .int .u8 0, .int .u8 0, .int .u8 0, .int .u8 0, .int .u8 0, .int .u8 0, .int .u8 1] = aggV [idSeg 1] := by
  unfold aggV idSeg
  simp only [Segs.cells, Seg.cells, idV_list]
  simp [List.range, List.range.loop, idB]
/-- Powers, as they are told. -/
def powR (k : Int) : Plc × Int := if 0 ≤ k ∧ k < 160 then (powP k.toNat, 0) else (0, 1)
def ofIdI (r : Plc × Int) : Value := .tuple #[aggV [idSeg r.1], .int .i64 r.2]
theorem powV0 {k : Nat} (h : k < 160) {j : Nat} (hj : j = 19 - k / 8) {v : Int} (hv : v = ((2 ^ (k % 8) : Nat) : Int)) (hp : j < 20) : (idV 0).set j (.int .u8 v) hp = idV (powP k) := by
  subst hj; exact powV h hv
theorem shl_one {k : Nat} : IntKind.u8.wrap (1 * 2 ^ (min ((k % 8 : Nat) : Int).toNat IntKind.u8.bits)) = ((2 ^ (k % 8) : Nat) : Int) := by
  have h : k % 8 < 8 := Nat.mod_lt _ (by decide)
  generalize k % 8 = j at h
  have : j = 0 ∨ j = 1 ∨ j = 2 ∨ j = 3 ∨ j = 4 ∨ j = 5 ∨ j = 6 ∨ j = 7 := by omega
  rcases this with rfl | rfl | rfl | rfl | rfl | rfl | rfl | rfl <;> decide
theorem front_at (b : Plc) (k : Nat) (h : k < 20) : (Segs.cells [.arr 20 (frontV (~~~b) b k)])[k]? = some (.int .u8 (idB b k)) := by
  rw [arr_cells]
  have := frontV_get (~~~b) b k h
  rw [if_neg (by omega)] at this
  rw [← this]
  simp [h]
end Go.Esp
/-
  Places.
-/
set_option linter.unusedSimpArgs false
set_option linter.unusedVariables false
set_option linter.unnecessarySimpa false
set_option maxRecDepth 8000
set_option maxHeartbeats 1000000
namespace Go.Proofs.Ytbafnjniijodfaa
open Go.Esp
theorem F.arr33 : arOf Try.prog 33 = some (20, 5) := by kernel_rfl
theorem F.ext76 : Ext Try.prog 76 Extern.BytealgCompare.compare := fun args w => by kernel_rfl
theorem F.lay5 : lay Try.prog 5 = some (false, 1) := by kernel_rfl
theorem F.ok66 : okFn Try.prog 66 = true := by kernel_rfl

theorem bcmp_ok (M : Mem) (ba bb : Nat) (a b : Plc) : Fo Try.prog 66 [.slice (some ⟨ba, 0, none⟩) 20 20, .slice (some ⟨bb, 0, none⟩) 20 20] M [(bb, rowO [idSeg b] 33), (ba, rowO [idSeg a] 33)] (fun M' v => M' = M ∧ v = .int .i64 (cmpP a b)) := by
  refine fo_enter Try.func66 rfl Try.ntmps66 rfl ?_; intro H
  refine C_seq ?_
  refine C_region (l := [0]) rfl ?_
  refine Y_assign ?_
  refine XD_end ?_
  refine K_then ?_
  refine C_seq ?_
  refine C_region (l := [0, 1, 2, 3]) rfl ?_
  iterate 2 refine Y_move ?_
  refine X_ext rfl rfl F.ext76 rfl (fun w hw => run_compare (hw.own _ _ (by repeat first | exact List.Mem.head _ | refine List.Mem.tail _ ?_ | refine List.mem_append_right _ ?_)) (hw.own _ _ (by repeat first | exact List.Mem.head _ | refine List.Mem.tail _ ?_ | refine List.mem_append_right _ ?_))) rfl ?_
  refine Y_assign ?_
  refine XD_end ?_
  refine K_then ?_
  refine Y_pk [4] ?_
  refine C_ret ?_
  refine K_end (.inr rfl) (.tmp rfl .nil) (fun w hw => ?_)
  exact ⟨_, M, rfl, Mem.le.refl M, hw.c, rfl, rfl⟩

theorem Less_ok (M : Mem) (a : Plc) (b : Plc) : Fs Try.prog 46 [aggV [idSeg a], aggV [idSeg b]] M (fun v => v = Value.bool (decide (LessP a b))) := by
  refine fs_enter Try.func46 rfl Try.ntmps46 rfl ?_; intro H
  refine C_seq ?_
  refine C_region (l := [0, 1, 2]) rfl ?_
  refine Y_box ?_; intro b1
  refine Y_box ?_; intro b2
  refine Y_assign ?_
  refine XD_end ?_
  refine K_then ?_
  refine Y_pk [4, 3, 2] ?_
  refine C_seq ?_
  refine C_region_any (l := [0, 1, 2, 3, 4]) #[0, 0, 3, 7, 15] _ rfl (by kernel_rfl) (by kernel_rfl) St.drawn (fun _ h => h) ?_
  iterate 2 refine X_slice_arr rfl rfl rfl F.arr33 rfl ?_
  refine X_fo rfl rfl F.ok66 rfl (bcmp_ok _ _ _ a b) (by repeat first | exact Rem.here _ | exact Rem.two | apply Rem.skip | apply Rem.over) (putE_some rfl) ?_
  rintro _ M1 _ ⟨hM1, rfl⟩; subst M1
  refine Y_cmp ?_
  refine Y_assign ?_
  refine XD_end ?_
  refine K_then ?_
  refine Y_pk [4] ?_
  refine C_ret ?_
  refine K_end (.inr rfl) (.tmp rfl .nil) (fun w hw => ?_)
  refine ⟨_, rfl, (hw.c), ?_⟩
  clear hw
  exact congrArg Value.bool (decide_eq_decide.2 cmpP_neg)

theorem rLess_ok (M : Mem) (a : Plc) (b : Plc) : Fs Try.prog 47 [aggV [idSeg a], aggV [idSeg b]] M (fun v => v = Value.bool (decide (LessP a b))) := by
  refine fs_enter Try.func47 rfl Try.ntmps47 rfl ?_; intro H
  refine C_seq ?_
  refine C_region (l := [0, 1, 2]) rfl ?_
  refine Y_box ?_; intro b1
  refine Y_box ?_; intro b2
  refine Y_assign ?_
  refine XD_end ?_
  refine K_then ?_
  refine Y_pk [4, 3, 2] ?_
  iterate 2 refine C_seq ?_
  refine C_region (l := [0]) rfl ?_
  refine Y_assign ?_
  refine XD_end ?_
  refine K_then ?_
  refine C_block ?_
  refine Y_pk [5, 4, 3, 2] ?_
  refine C_loopS (.succ .zero) (fun (k : Nat) z => z = [(5, .int .i64 (k : Int))] ∧ k ≤ 20 ∧ (∀ j, j < k → idB a j = idB b j)) (fun k => 20 - k) (0) (⟨rfl, by omega, by (intro j hj; omega)⟩) ?_
  rintro k _ ⟨rfl, hk, hI⟩
  iterate 2 refine C_seq ?_
  refine C_region (l := [0, 1]) rfl ?_
  refine Y_move ?_
  refine Y_cmp ?_
  refine XD_end ?_
  refine K_then ?_
  refine C_cond rfl (fun hc3 => ?_) (fun hc3 => ?_)
  ·replace hc3 := dT hc3
   refine C_skip ?_
   refine K_then ?_
   refine C_seq ?_
   refine C_block ?_
   refine C_seq ?_
   refine C_region_any (l := [0, 1, 2, 3, 4, 5, 6]) #[0, 1, 3, 0, 8, 24, 63] _ rfl (by kernel_rfl) (by kernel_rfl) St.drawn (fun _ h => h) ?_
   refine Y_move ?_
   refine X_indexAddr_arr rfl rfl rfl rfl F.arr33 (by rfl) (by omega) rfl ?_
   refine X_load_cell rfl rfl rfl (by repeat first | exact List.Mem.head _ | refine List.Mem.tail _ ?_ | refine List.mem_append_right _ ?_) F.lay5 (by exact id_at (by omega)) rfl ?_
   refine Y_move ?_
   refine X_indexAddr_arr rfl rfl rfl rfl F.arr33 (by rfl) (by omega) rfl ?_
   refine X_load_cell rfl rfl rfl (by repeat first | exact List.Mem.head _ | refine List.Mem.tail _ ?_ | refine List.mem_append_right _ ?_) F.lay5 (by exact id_at (by omega)) rfl ?_
   refine Y_cmp ?_
   refine XD_end ?_
   refine K_then ?_
   refine C_cond rfl (fun hc4 => ?_) (fun hc4 => ?_)
   ·replace hc4 := nT hc4
    refine C_seq ?_
    refine C_region_any (l := [0, 1, 2, 3, 4, 5, 6, 7]) #[0, 1, 3, 0, 8, 24, 63, 127] _ rfl (by kernel_rfl) (by kernel_rfl) St.drawn (fun _ h => h) ?_
    refine Y_move ?_
    refine X_indexAddr_arr rfl rfl rfl rfl F.arr33 (by rfl) (by omega) rfl ?_
    refine X_load_cell rfl rfl rfl (by repeat first | exact List.Mem.head _ | refine List.Mem.tail _ ?_ | refine List.mem_append_right _ ?_) F.lay5 (by exact id_at (by omega)) rfl ?_
    refine Y_move ?_
    refine X_indexAddr_arr rfl rfl rfl rfl F.arr33 (by rfl) (by omega) rfl ?_
    refine X_load_cell rfl rfl rfl (by repeat first | exact List.Mem.head _ | refine List.Mem.tail _ ?_ | refine List.mem_append_right _ ?_) F.lay5 (by exact id_at (by omega)) rfl ?_
    refine Y_cmp ?_
    refine Y_assign ?_
    refine XD_end ?_
    refine K_then ?_
    refine C_ret ?_
    refine K_retB ?_
    iterate 2 refine K_ret ?_
    refine K_retB ?_
    refine K_ret ?_
    refine K_end (.inr rfl) (.tmp rfl .nil) (fun w hw => ?_)
    refine ⟨_, rfl, (hw.c), ?_⟩
    clear hw
    refine congrArg Value.bool ?_
    exact decide_eq_decide.2 ((Int.ofNat_lt).trans (less_at (by omega) hI (by omega)).symm)
   ·replace hc4 := nF hc4
    refine C_skip ?_
    refine K_out ?_
    refine K_then ?_
    refine C_region (l := [0, 1, 2]) rfl ?_
    refine Y_move ?_
    refine X_ari rfl rfl rfl rfl rfl (by exact wrap_in (by decide) (by omega)) rfl ?_
    refine Y_assign ?_
    refine XD_end ?_
    refine K_roundS (a' := [(5, _)]) (k + 1) (.cons (k := 5) rfl (.cons (k := 4) rfl (.cons (k := 3) rfl (.cons (k := 2) rfl (.nil))))) (fun w hw => by first | exact hw | exact hw.c) ?_ ?_
    ·refine ⟨rfl, by omega, ?_⟩
     intro j hj; rcases Nat.lt_or_ge j k with h9 | h9; exact hI j h9; obtain rfl : j = k := by omega
     omega
    ·omega
  ·replace hc3 := dF hc3
   refine C_exit ?_
   iterate 2 refine K_exit ?_
   refine K_hit ?_
   refine K_then ?_
   refine Y_pk [4] ?_
   refine C_seq ?_
   refine C_region (l := [0]) rfl ?_
   refine Y_assign ?_
   refine XD_end ?_
   refine K_then ?_
   refine C_ret ?_
   refine K_end (.inr rfl) (.tmp rfl .nil) (fun w hw => ?_)
   refine ⟨_, rfl, (hw.c), ?_⟩
   clear hw
   refine congrArg Value.bool ?_
   (have e : a = b := plc_eq (fun j hj => hI j (by omega)); subst e; simp [LessP])

end Go.Proofs.Ytbafnjniijodfaa
/-
  Pieces of slices that never change; stores into rows of ours.
-/
set_option linter.unusedSimpArgs false
set_option linter.unusedVariables false
set_option linter.unnecessarySimpa false
namespace Go.Esp

theorem rowsCells_len {sz : Nat} {rows : List Segs} (h : lens sz rows) : (rowsCells rows).length = rows.length * sz := rowsCells_length h
theorem lens.take {sz : Nat} {rows : List Segs} (h : lens sz rows) (k : Nat) : lens sz (rows.take k) := fun r hr => h r (List.mem_of_mem_take hr)
theorem lens.drop {sz : Nat} {rows : List Segs} (h : lens sz rows) (k : Nat) : lens sz (rows.drop k) := fun r hr => h r (List.mem_of_mem_drop hr)
theorem rowsCells_take {sz : Nat} {rows : List Segs} (h : lens sz rows) {k : Nat} (hk : k ≤ rows.length) : rowsCells (rows.take k) = (rowsCells rows).take (k * sz) := by
  have e : rowsCells rows = rowsCells (rows.take k) ++ rowsCells (rows.drop k) := by rw [← rowsCells_append, List.take_append_drop]
  have hl : (rowsCells (rows.take k)).length = k * sz := by rw [rowsCells_length (h.take k)]; simp [hk]
  rw [e, ← hl, List.take_left]
theorem rowsCells_drop {sz : Nat} {rows : List Segs} (h : lens sz rows) {k : Nat} (hk : k ≤ rows.length) : rowsCells (rows.drop k) = (rowsCells rows).drop (k * sz) := by
  have e : rowsCells rows = rowsCells (rows.take k) ++ rowsCells (rows.drop k) := by rw [← rowsCells_append, List.take_append_drop]
  have hl : (rowsCells (rows.take k)).length = k * sz := by rw [rowsCells_length (h.take k)]; simp [hk]
  rw [e, ← hl, List.drop_left]

theorem SlM.take {M : Mem} {a : Option Addr} {rows : List Segs} {sz : Nat} (h : SlM M a rows sz) {k : Nat} (hk : k ≤ rows.length) : SlM M a (rows.take k) sz := by
  refine ⟨h.lens.take k, fun hn => ?_⟩
  obtain ⟨b, off, c, T, fz, h1, h2, h3⟩ := h.there (fun e => hn (by rw [e]; simp))
  refine ⟨b, off, c, T, fz, h1, h2, ?_⟩
  rw [rowsCells_take h.lens hk, ← h3, List.take_take, List.length_take, Nat.min_eq_left hk]
  congr 1
  have := Nat.mul_le_mul_right sz hk
  omega
def shiftA (a : Option Addr) (c k sz : Nat) : Option Addr := if c = k then a else a.map (·.add (k * sz))
theorem SlM.drop {M : Mem} {a : Option Addr} {rows : List Segs} {sz c : Nat} (h : SlM M a rows sz) {k : Nat} (hk : k ≤ rows.length) (hc : rows.length ≤ c) : SlM M (shiftA a c k sz) (rows.drop k) sz := by
  refine ⟨h.lens.drop k, fun hn => ?_⟩
  obtain ⟨b, off, x, T, fz, h1, h2, h3⟩ := h.there (fun e => hn (by rw [e]; simp))
  have hlt : k < rows.length := by
    rcases Nat.lt_or_ge k rows.length with h' | h'
    · exact h'
    · exact (hn (List.drop_eq_nil_of_le h')).elim
  refine ⟨b, off + k * sz, x, T, fz, ?_, h2, ?_⟩
  · unfold shiftA
    rw [if_neg (by omega), h1]; simp [Addr.add_lit]
  · rw [rowsCells_drop h.lens hk, ← h3, List.drop_take, List.drop_drop, List.length_drop, Nat.sub_mul]
theorem rows_one1 {r : Segs} (h : flat r) : ∀ u ∈ rowsCells [r], u.oneCell' = true := fun u hu => by
  simp only [rowsCells, List.append_nil] at hu
  exact h u hu
theorem Addr.add_zero' (a : Addr) : a.add 0 = a := by unfold Addr.add; simp
theorem pieceV_take {α : Type} {a : Option Addr} {sz c k : Nat} {l : List α} (hk : k ≤ l.length) : pieceV a sz 0 k c = Sl.val ⟨a, c, l.take k⟩ := by
  unfold pieceV
  simp only [Nat.zero_mul, Nat.sub_zero, Sl.val, List.length_take, Nat.min_eq_left hk]
  congr 1
  split
  · rfl
  · cases a with
    | none => rfl
    | some x => simp [Addr.add_zero']
theorem pieceV_drop {α : Type} {a : Option Addr} {sz c k : Nat} {l : List α} : pieceV a sz k l.length c = Sl.val ⟨shiftA a c k sz, c - k, l.drop k⟩ := by
  unfold pieceV shiftA
  simp only [Sl.val, List.length_drop]
theorem SlK.take {α : Type} {M : Mem} {f : α → Segs} {sz : Nat} {a : Option Addr} {c : Nat} {l : List α} (h : SlK M f sz ⟨a, c, l⟩) (k : Nat) (hk : k ≤ l.length) : SlK M f sz ⟨a, c, l.take k⟩ := by
  have h2 := h.h2; have h3 := h.h3
  simp only at h2 h3
  refine ⟨?_, ?_, ?_⟩
  · simp only [List.map_take]; exact h.h1.take (by simpa using hk)
  · simp only [List.length_take]; omega
  · simp only [List.length_take]; omega
theorem SlK.drop {α : Type} {M : Mem} {f : α → Segs} {sz : Nat} {a : Option Addr} {c : Nat} {l : List α} (h : SlK M f sz ⟨a, c, l⟩) (k : Nat) (hk : k ≤ l.length) : SlK M f sz ⟨shiftA a c k sz, c - k, l.drop k⟩ := by
  have h2 := h.h2; have h3 := h.h3
  simp only at h2 h3
  refine ⟨?_, ?_, ?_⟩
  · simp only [List.map_drop]; exact h.h1.drop (by simpa using hk) (by simpa using h3)
  · simp only [List.length_drop]; omega
  · simp only [List.length_drop]; omega
theorem OSl.caps {T sz l c : Nat} {a : Option Addr} {hs : Hp} {rows : List Segs} (h : OSl T sz (.slice a l c) hs rows) : rows.length ≤ c ∧ c ≤ maxLen ∧ l = rows.length := by
  generalize hv : Value.slice a l c = v at h
  cases h with
  | nil => cases hv; exact ⟨Nat.le_refl _, Nat.zero_le _, rfl⟩
  | own b c' _ cur g1 g2 g3 g4 g5 => cases hv; exact ⟨g2, g3, rfl⟩
theorem OSl.noneAll {α : Type} {T sz c : Nat} {f : α → Segs} {l : List α} {hs : Hp} (h : OSl T sz (.slice none l.length c) hs (l.map f)) : l = [] ∧ c = 0 ∧ hs = [] := by
  generalize hv : Value.slice none l.length c = v at h
  generalize hr : l.map f = r at h
  cases h with
  | nil => simp only [Value.slice.injEq] at hv; exact ⟨List.map_eq_nil_iff.1 hr, hv.2.2, rfl⟩
  | own => simp at hv
theorem OSl.someAll {T sz l c : Nat} {ad : Addr} {hs : Hp} {rows : List Segs} (h : OSl T sz (.slice (some ad) l c) hs rows) : ∃ b, ad = ⟨b, 0, none⟩ := by
  generalize hv : Value.slice (some ad) l c = v at h
  cases h with
  | nil => simp at hv
  | own b => simp only [Value.slice.injEq, Option.some.injEq] at hv; exact ⟨b, hv.1⟩
/-- A row of ours is handed on: from now on it never changes. -/
theorem OSl.freezeK {α : Type} {T sz : Nat} {v : Value} {hs : Hp} {f : α → Segs} {l : List α} {M : Mem} {H : Hp} (ho : OSl T sz v hs (l.map f)) {w : World} (hw : St M (hs ++ H) w) : ∃ (M' : Mem) (s : Sl α), M.le M' ∧ St M' H w ∧ v = s.val ∧ s.l = l ∧ SlK M' f sz s := by
  obtain ⟨M', a, c, h1, h2, h3, h4⟩ := ho.freeze hw
  rw [h3] at ho
  obtain ⟨g1, g2, _⟩ := ho.caps
  simp only [List.length_map] at g1
  exact ⟨M', ⟨a, c, l⟩, h1, h2, by rw [h3]; simp [Sl.val], rfl, h4, by simp only; omega, g1⟩
end Go.Esp
/-
  Rows of ours: made, copied into, stored into; what never changes as a source.
-/
set_option linter.unusedSimpArgs false
set_option linter.unusedVariables false
set_option linter.unnecessarySimpa false
namespace Go.Esp
section
variable {P : Program} {n : Sh} {ops : Array Oper} {Q : Exit → Act → World → Prop} {rest : List Nat} {M M' : Mem} {H H' H0 : Hp} {e : Env} {J S : World → Prop} {A : As} {i : Nat}
  {dst : Option Tmp} {d : Tmp} {op : Op} {ty : TypeId} {pos : String} {af : Array Edge} {gd : Option (Nat × Bool)}

theorem rows_one {α : Type} {f : α → Segs} (hf : ∀ x, flat (f x)) : ∀ (l : List α), ∀ u ∈ rowsCells (l.map f), u.oneCell' = true
  | [], u, hu => by cases hu
  | x :: l, u, hu => by
    rcases List.mem_append.1 (show u ∈ Segs.cells (f x) ++ rowsCells (l.map f) from hu) with hu | hu
    · exact hf x u hu
    · exact rows_one hf l u hu

theorem SlM.none_nil {α : Type} {f : α → Segs} {sz : Nat} {l : List α} (h : SlM M Option.none (l.map f) sz) : l = [] := by
  cases l with
  | nil => rfl
  | cons x l => obtain ⟨b, off, c, T, fz, h1, _⟩ := h.there (by simp); cases h1
/-- What never changes, as a source. -/
theorem SlM.src {ad : Addr} {rows : List Segs} {sz l c : Nat} (h : SlM M (some ad) rows sz) (h1 : ∀ u ∈ rowsCells rows, u.oneCell' = true) (hl : l = rows.length) : Src M H sz (.slice (some ad) l c) rows := by
  subst hl
  refine ⟨h.lens, h1, ad, c, rfl, fun w hw j u hu => ?_⟩
  obtain ⟨b, off, x, T, fz, e1, h2, h3⟩ := h.there (fun e => by rw [e] at hu; simp [rowsCells] at hu)
  cases e1
  rw [Addr.add_lit, cell_of_row (hw.mem _ _ h2)]
  rw [← h3, List.getElem?_take, List.getElem?_drop] at hu
  split at hu
  · simpa using hu
  · cases hu

/-- append of nothing: it stays as it is. -/
theorem X_append_none {t E sz by_ : Nat} {x y : Operand} {a : Option Addr} {l c c' : Nat} {ats : Array TypeId} (hi : ops[i]? = some ⟨some d, .call ⟨.builtin .append, #[x, y], ats⟩, ty, pos, af, gd⟩) (hg : want ops e gd = some true)
    (hx : ev e x = some (.slice a l c)) (hy : ev e y = some (.slice Option.none 0 c')) (hat : ats = #[t, t]) (ht : slOf P t = some (E, sz, by_)) (hlc : l ≤ c) (hd : Nat.ble (d + 1) n.sz = true)
    (hk : XD P n ops Q rest (St M H) ⟨M, H⟩ ((d, .slice a l c) :: e)) (hnw : n.wrs.contains i = false := by rfl) : XD P n ops Q (i :: rest) J ⟨M, H⟩ e := by
  subst hat
  refine X_mut hi rfl hg (fun a' w ha hw => ?_) hnw
  obtain ⟨it, hu, hit, rfl, rfl⟩ := elemOf_spec ht
  have hr : (Builtin.append_ #[t, t] ty #[.slice a l c, .slice Option.none 0 c']).run P w = .ok (.slice a l c) w := by
    cases a <;> simp [Builtin.append_, run_underlying hu, sizeOf, typeInfo, hit, Builtin.lenOf, Builtin.firstCells, hlc, storeCells]
  unfold Oper.does
  have : (execOp a'.eval ⟨some d, .call ⟨.builtin .append, #[x, y], #[t, t]⟩, ty, pos, af, gd⟩).run P w = .ok (.value (.slice a l c)) w := by
    simp only [execOp, resolve, pure_bind, invoke]
    have : #[x, y].map a'.eval = #[.slice a l c, .slice Option.none 0 c'] := by simp [ha.ev hx, ha.ev hy]
    rw [this]
    exact run_v hr
  rw [this]
  exact ⟨⟨M, H⟩, _, hw, ha.put hd _, hk⟩

theorem made_cells {z : Array Value} {zr : Segs} (hz : z.toList = Segs.cells zr) (hp : 0 < z.size) : ∀ (n : Nat), (madeCells z (n * z.size)).toList = rowsCells (List.replicate n zr)
  | 0 => by simp [madeCells, rowsCells]
  | n + 1 => by
    have ih := made_cells hz hp n
    rw [List.replicate_succ', rowsCells_append, ← ih]
    simp only [madeCells, Array.toList_map, Array.toList_range, rowsCells, List.append_nil, Nat.add_mul, Nat.one_mul] at *
    rw [List.range_add, List.map_append]
    congr 1
    rw [← hz, List.map_map]
    apply List.ext_getElem
    · simp
    · intro j h1 h2
      simp only [List.length_map, List.length_range] at h1
      simp only [List.getElem_map, List.getElem_range, Function.comp, Nat.mul_add_mod_self_right]
      rw [Nat.mod_eq_of_lt h1, getElem!_pos z j h1]
      simp

/-- A row of zeros, made. -/
theorem X_makeSliceO {t E sz by_ k : Nat} {z : Value} {zr : Segs} {x y : Operand} (hi : ops[i]? = some ⟨some d, .makeSlice t x y, ty, pos, af, gd⟩) (hg : want ops e gd = some true)
    (hx : ev e x = some (.int .i64 (k : Int))) (hy : ev e y = some (.int .i64 (k : Int))) (ht : slOf P t = some (E, sz, by_)) (hz : zeroOf P E = some z) (hzr : z.cells.toList = Segs.cells zr) (hzs : z.cells.size = sz) (hsz : Nat.ble 1 sz = true)
    (hk9 : k * sz ≤ 16777216) (hkb : by_ * k ≤ 281474976710656) (hd : Nat.ble (d + 1) n.sz = true)
    (hk : ∀ (b : Nat) hs', OSl E sz (.slice (some ⟨b, 0, Option.none⟩) k k) hs' (List.replicate k zr) → XD P n ops Q rest J ⟨M, hs' ++ H⟩ ((d, .slice (some ⟨b, 0, Option.none⟩) k k) :: e)) : XD P n ops Q (i :: rest) J ⟨M, H⟩ e := by
  refine X_eff hi rfl hg (fun a F w ha hw => ?_)
  obtain ⟨it, hu, hit, rfl, rfl⟩ := elemOf_spec ht
  have hz' : it.zero = some z := by simpa [zeroOf, hit] using hz
  have hpos : 1 ≤ it.size := Nat.le_of_ble_eq_true hsz
  have hkl : k ≤ k * it.size := Nat.le_mul_of_pos_right k hpos
  have hb9 : (it.bytes : Int) * (k : Int) ≤ 281474976710656 := by
    have h9 : ((it.bytes * k : Nat) : Int) ≤ 281474976710656 := by omega
    simpa using h9
  have hr := run_makeSlice (P := P) (w := w) t E it z hu hit hz' .i64 .i64 (k : Int) (k : Int) (by omega) (by omega) (by simpa using hk9) hb9 (by omega)
  simp only [Int.toNat_natCast] at hr
  have hlen : Segs.len zr = it.size := by rw [← hzs, ← Segs.cells_length, ← hzr]; simp
  have ho : OSl E it.size (.slice (some ⟨w.heap.size, 0, Option.none⟩) k k) [(w.heap.size, .cells (madeCells z.cells (k * it.size)) E (0, 0))] (List.replicate k zr) := by
    have hll : lens it.size (List.replicate k zr) := fun r hr => by rw [List.eq_of_mem_replicate hr]; exact hlen
    have hm := made_cells hzr (by omega) k
    rw [hzs] at hm
    have := OSl.own (T := E) (sz := it.size) w.heap.size k (List.replicate k zr) (madeCells z.cells (k * it.size)) hll (by simp) (by simp only [maxLen]; omega) (by simp [madeCells]) (by
      rw [hm, ← rowsCells_length hll]; exact List.take_length)
    simpa using this
  unfold Oper.does
  have : (execOp a.eval ⟨some d, .makeSlice t x y, ty, pos, af, gd⟩).run P w = .ok (.value (.slice (some ⟨w.heap.size, 0, Option.none⟩) k k)) (w.alloc (.cells (madeCells z.cells (k * it.size)) E)) := by
    simp only [execOp, ha.ev hx, ha.ev hy]
    exact run_v hr
  rw [this]
  have h2 : St M (F ++ ([(w.heap.size, Obj.cells (madeCells z.cells (k * it.size)) E (0, 0))] ++ H)) (w.alloc (.cells (madeCells z.cells (k * it.size)) E)) := (St.alloc hw _).perm0 List.perm_middle.symm
  have h3 : ∀ u, St M ([(w.heap.size, Obj.cells (madeCells z.cells (k * it.size)) E (0, 0))] ++ H) u → St M H u := fun u hu' => St.tail hu'
  exact ⟨⟨M, [(w.heap.size, Obj.cells (madeCells z.cells (k * it.size)) E (0, 0))] ++ H⟩, _, h2, h3, ha.put hd _, hk _ _ ho⟩

/-- A row of ours, some of its elements turned. -/
theorem rowSplice {T sz b c k : Nat} {rows news : List Segs} {cur : Array Value} (h1 : lens sz rows) (h2 : lens sz news) (h3 : rows.length ≤ c) (h4 : c ≤ maxLen) (h5 : cur.size = c * sz) (h6 : cur.toList.take (rows.length * sz) = rowsCells rows) (hk : k + news.length ≤ rows.length) :
    OSl T sz (.slice (some ⟨b, 0, Option.none⟩) rows.length c) [(b, .cells (cur.toList.take (k * sz) ++ rowsCells news ++ cur.toList.drop (k * sz + (rowsCells news).length)).toArray T (0, 0))] (rows.take k ++ news ++ rows.drop (k + news.length)) := by
  have hnl : (rowsCells news).length = news.length * sz := rowsCells_length h2
  have hle : k * sz + news.length * sz ≤ rows.length * sz := by rw [← Nat.add_mul]; exact Nat.mul_le_mul_right _ hk
  have hrc : rows.length * sz ≤ c * sz := Nat.mul_le_mul_right _ h3
  have hlen : (rows.take k ++ news ++ rows.drop (k + news.length)).length = rows.length := by simp; omega
  have hll : lens sz (rows.take k ++ news ++ rows.drop (k + news.length)) := ((h1.take k).append h2).append (h1.drop _)
  have := OSl.own (T := T) (sz := sz) b c (rows.take k ++ news ++ rows.drop (k + news.length)) (cur.toList.take (k * sz) ++ rowsCells news ++ cur.toList.drop (k * sz + (rowsCells news).length)).toArray hll (by omega) h4 (by
    simp only [List.size_toArray, List.length_append, List.length_take, List.length_drop, Array.length_toList]; omega) (by
    rw [hlen]
    simp only [List.toList_toArray]
    rw [rowsCells_append, rowsCells_append, rowsCells_take h1 (by omega), rowsCells_drop h1 hk, ← h6, hnl, List.take_take, Nat.min_eq_left (by omega), List.drop_take]
    rw [List.take_append, List.take_of_length_le (by simp only [List.length_append, List.length_take, Array.length_toList]; omega)]
    congr 1
    simp only [List.length_append, List.length_take, Array.length_toList, hnl]
    rw [Nat.min_eq_left (by omega), Nat.add_mul])
  rw [hlen] at this
  exact this

/-- A store of an element into a row of ours. -/
theorem X_storeO {t : TypeId} {x y : Operand} {b j sz c m l : Nat} {agg : Bool} {T : TypeId} {q : Segs} {v : Value} {hs : Hp} {rows : List Segs} (hi : ops[i]? = some ⟨Option.none, .store t x y, ty, pos, af, gd⟩) (hg : want ops e gd = some true)
    (hx : ev e x = some (eptr (some ⟨b, 0, Option.none⟩) j sz 0)) (hy : ev e y = some v) (hp : Parts v q) (hq : flat q) (hl : lay P t = some (agg, m)) (hn : Segs.len q = m) (hms : m = sz) (ho : OSl T sz (.slice (some ⟨b, 0, Option.none⟩) l c) hs rows) (hH : Rem hs H H0) (hj : j < rows.length)
    (hk : ∀ hs', OSl T sz (.slice (some ⟨b, 0, Option.none⟩) rows.length c) hs' (rows.set j q) → XD P n ops Q rest (St M (hs' ++ H0)) ⟨M, hs' ++ H0⟩ e) (hnw : n.wrs.contains i = false := by rfl) : XD P n ops Q (i :: rest) J ⟨M, H⟩ e := by
  subst hms
  refine X_mut hi rfl hg (fun a w ha hw => ?_) hnw
  obtain ⟨dd, it, hd, hit, hsz, hag⟩ := lay_spec hl
  obtain ⟨cur, rfl, rfl, hlr, hcap, hcm, hcs, htake⟩ := ho.inv
  have hst := hw.perm hH.perm
  have hb := hst.own b _ (List.mem_append_left _ (.head _))
  have hq1 : lens m [q] := fun r hr => by rw [List.mem_singleton.1 hr]; exact hn
  have hjl : j * m + m ≤ rows.length * m := by have := Nat.mul_le_mul_right m (show j + 1 ≤ rows.length from hj); rwa [Nat.add_mul, Nat.one_mul] at this
  have hrc : rows.length * m ≤ c * m := Nat.mul_le_mul_right _ hcap
  have hql : (Segs.cells q).length = m := by rw [Segs.cells_length, hn]
  have h2 := run_storeCells_at P b (j * m) T (Segs.cells q) 0 cur w hb (by omega) hq
  have ho' := rowSplice (T := T) (b := b) (k := j) hlr hq1 hcap hcm hcs htake (by simp; omega)
  have er : rows.take j ++ [q] ++ rows.drop (j + [q].length) = rows.set j q := by
    rw [List.set_eq_take_append_cons_drop, if_pos hj]; simp
  rw [er] at ho'
  simp only [rowsCells, List.append_nil] at ho'
  have hr : (Instr.storeAt t (.pointer (some ⟨b, 0 + (j * m + 0), Option.none⟩)) v).run P w = .ok () (w.setRow b (cur.toList.take (j * m) ++ Segs.cells q ++ cur.toList.drop (j * m + (Segs.cells q).length)).toArray) := by
    unfold Instr.storeAt
    rw [Sem.run_bind]
    show (Result.ok _ w).andThen _ = _
    rw [Result.andThen_ok]
    unfold storeVar
    rw [Sem.run_bind, run_sizeOf' hit, Result.andThen_ok]
    have hs : v.cells.size = it.size := by rw [hp.cells, hsz]; simp [Segs.cells_length, hn]
    simp only [hs, ne_eq, not_true_eq_false, if_false]
    rw [hp.cells, Nat.zero_add, Nat.add_zero]
    simpa using h2
  unfold Oper.does
  rw [eptr_some] at hx
  have : (execOp a.eval ⟨Option.none, .store t x y, ty, pos, af, gd⟩).run P w = .ok .skip (w.setRow b (cur.toList.take (j * m) ++ Segs.cells q ++ cur.toList.drop (j * m + (Segs.cells q).length)).toArray) := by
    simp only [execOp, ha.ev hx, ha.ev hy]
    rw [run_bind_ok hr]; rfl
  rw [this]
  refine ⟨⟨M, _⟩, e, ?_, ha, hk _ ho'⟩
  exact hst.upd .head (setRow_heap w b cur _ T _ hb) (fun c hc x hx => by rw [setRow_other w b c _ hc]; exact hx) (SameIO.refl _)

/-- copy into a row of ours. -/
theorem X_copyO {t t' E sz by_ : Nat} {x y : Operand} {u : Value} {b k l' c' m c l off : Nat} {hs : Hp} {rows news : List Segs} {ats : Array TypeId} (hi : ops[i]? = some ⟨some d, .call ⟨.builtin .copy, #[x, y], ats⟩, ty, pos, af, gd⟩) (hg : want ops e gd = some true)
    (hx : ev e x = some (.slice (some ⟨b, off, Option.none⟩) l' c')) (hy : ev e y = some u) (hat : ats = #[t, t']) (ht : slOf P t = some (E, sz, by_)) (hoff : off = k * sz) (hkl : k + l' ≤ rows.length) (ho : OSl E sz (.slice (some ⟨b, 0, Option.none⟩) l c) hs rows) (hH : Rem hs H H0)
    (hsrc : Src M H sz u news) (hm : m = min news.length l') (hd : Nat.ble (d + 1) n.sz = true)
    (hk : ∀ hs', OSl E sz (.slice (some ⟨b, 0, Option.none⟩) rows.length c) hs' (rows.take k ++ news.take m ++ rows.drop (k + m)) → XD P n ops Q rest (St M (hs' ++ H0)) ⟨M, hs' ++ H0⟩ ((d, .int .i64 (m : Int)) :: e)) (hnw : n.wrs.contains i = false := by rfl) : XD P n ops Q (i :: rest) J ⟨M, H⟩ e := by
  subst hat hoff
  refine X_mut hi rfl hg (fun a w ha hw => ?_) hnw
  obtain ⟨it, hu, hit, rfl, rfl⟩ := elemOf_spec ht
  obtain ⟨hln, h1, ad, c2, rfl, hsr⟩ := hsrc
  obtain ⟨cur, rfl, rfl, hlr, hcap, hcm, hcs, htake⟩ := ho.inv
  have hst := hw.perm hH.perm
  have hb := hst.own b _ (List.mem_append_left _ (.head _))
  have hml : (news.take m).length = m := by simp; omega
  have hmn : lens it.size (news.take m) := hln.take m
  have hcl : (rowsCells (news.take m)).length = m * it.size := by rw [rowsCells_length hmn, hml]
  have hle : k * it.size + m * it.size ≤ rows.length * it.size := by rw [← Nat.add_mul]; exact Nat.mul_le_mul_right _ (by omega)
  have hrc : rows.length * it.size ≤ c * it.size := Nat.mul_le_mul_right _ hcap
  have hone : ∀ v ∈ rowsCells (news.take m), v.oneCell' = true := fun v hv => h1 v (by rw [rowsCells_take hln (by omega)] at hv; exact List.mem_of_mem_take hv)
  have hload := run_loadCells_list (P := P) w ad (rowsCells (news.take m)) (fun j v hj => hsr w hw j v (by
    rw [rowsCells_take hln (by omega), List.getElem?_take] at hj
    split at hj
    · exact hj
    · cases hj))
  have hstore := run_storeCells_at P b (k * it.size) E (rowsCells (news.take m)) 0 cur w hb (by omega) hone
  have ho' := rowSplice (T := E) (b := b) (k := k) (news := news.take m) hlr hmn hcap hcm hcs htake (by omega)
  rw [hml] at ho'
  rw [hcl] at hload
  have hr : (Builtin.copy_ #[t, t'] ty #[.slice (some ⟨b, k * it.size, Option.none⟩) l' c', .slice (some ad) news.length c2]).run P w = .ok (goInt m) (w.setRow b (cur.toList.take (k * it.size) ++ rowsCells (news.take m) ++ cur.toList.drop (k * it.size + (rowsCells (news.take m)).length)).toArray) := by
    have e9 : Nat.min news.length l' = m := hm.symm
    simp [Builtin.copy_, run_underlying hu, Builtin.lenOf, Builtin.firstCells, sizeOf, typeInfo, hit, e9, hload]
    have h5 := hstore
    simp only [Nat.add_zero, List.append_assoc] at h5
    rw [h5]; rfl
  unfold Oper.does
  have : (execOp a.eval ⟨some d, .call ⟨.builtin .copy, #[x, y], #[t, t']⟩, ty, pos, af, gd⟩).run P w = .ok (.value (.int .i64 (m : Int))) (w.setRow b (cur.toList.take (k * it.size) ++ rowsCells (news.take m) ++ cur.toList.drop (k * it.size + (rowsCells (news.take m)).length)).toArray) := by
    simp only [execOp, resolve]
    simp only [invoke, builtin]
    have e1 : #[x, y].map a.eval = #[.slice (some ⟨b, k * it.size, Option.none⟩) l' c', .slice (some ad) news.length c2] := by simp [ha.ev hx, ha.ev hy]
    rw [e1]
    rw [Sem.run_bind]
    show (Result.ok _ w).andThen _ = _
    rw [Result.andThen_ok]
    exact run_v hr
  rw [this]
  refine ⟨⟨M, _⟩, _, ?_, ha.put hd _, hk _ ho'⟩
  exact hst.upd .head (setRow_heap w b cur _ E _ hb) (fun c hc x hx => by rw [setRow_other w b c _ hc]; exact hx) (SameIO.refl _)

theorem XD_perm (hp : H.Perm H') (h : XD P n ops Q rest (St M H') ⟨M, H'⟩ e) : XD P n ops Q rest (St M H) ⟨M, H⟩ e := by
  have e1 : St M H = St M H' := funext fun w => propext ⟨fun h => h.perm0 hp, fun h => h.perm0 hp.symm⟩
  intro hSJ a ha
  have := h (fun u hu => hu) a ha
  rw [e1]
  exact WD.perm (A := ⟨M, H'⟩) (A' := ⟨M, H⟩) rfl hp.symm this
/-- append of what never changes, nil or not. -/
theorem X_appendK {α : Type} {f : α → Segs} {xs : List α} {t E sz by_ m c' : Nat} {z : Value} {x y : Operand} {v : Value} {a : Option Addr} {hs : Hp} {rows : List Segs} {ats : Array TypeId} (hi : ops[i]? = some ⟨some d, .call ⟨.builtin .append, #[x, y], ats⟩, ty, pos, af, gd⟩) (hg : want ops e gd = some true)
    (hx : ev e x = some v) (hy : ev e y = some (.slice a xs.length c')) (hat : ats = #[t, t]) (ht : slOf P t = some (E, sz, by_)) (hz : zeroOf P E = some z) (hzs : z.cells.size = sz) (hsz : Nat.ble 1 sz = true) (ho : OSl E sz v hs rows) (hH : Rem hs H H0)
    (hsrc : SlM M a (xs.map f) sz) (hf : ∀ x, flat (f x)) (hm : rows.length + xs.length ≤ m) (hbm : Nat.ble (m * (by_ + 1)) 140737488355328 = true) (hd : Nat.ble (d + 1) n.sz = true)
    (hk : ∀ v' hs', OSl E sz v' hs' (rows ++ xs.map f) → XD P n ops Q rest (St M (hs' ++ H0)) ⟨M, hs' ++ H0⟩ ((d, v') :: e)) (hnw : n.wrs.contains i = false := by rfl) : XD P n ops Q (i :: rest) J ⟨M, H⟩ e := by
  cases a with
  | some ad => exact X_append hi hg hx hy hat ht hz hzs hsz ho hH (SlM.src hsrc (rows_one hf _) (List.length_map ..).symm) (by simpa using hm) hbm hd hk hnw
  | none =>
    have hl := hsrc.none_nil
    subst hl
    obtain ⟨a1, c1, rfl⟩ := ho.val
    obtain ⟨g1, _, _⟩ := ho.caps
    have hk' := hk _ _ (by simpa using ho)
    exact X_append_none hi hg hx hy hat ht g1 hd (XD_perm hH.perm hk') hnw

theorem OSl.valAt {T sz n : Nat} {v : Value} {hs : Hp} {rows : List Segs} (h : OSl T sz v hs rows) (hn : rows.length = n) : ∃ a c, v = .slice a n c := by
  obtain ⟨a, c, h1⟩ := h.val
  exact ⟨a, c, by rw [h1, hn]⟩
theorem OSl.as {T sz l l' c : Nat} {a : Option Addr} {hs : Hp} {rows : List Segs} (h : OSl T sz (.slice a l c) hs rows) (hl : l' = rows.length) : OSl T sz (.slice a l' c) hs rows := by
  obtain ⟨_, _, e⟩ := h.caps
  rw [hl, ← e]; exact h
theorem OSl.srcAll {T sz b l c : Nat} {hs : Hp} {rows : List Segs} (h : OSl T sz (.slice (some ⟨b, 0, Option.none⟩) l c) hs rows) (hH : Rem hs H H0) (h1 : ∀ u ∈ rowsCells rows, u.oneCell' = true) : Src M H sz (.slice (some ⟨b, 0, Option.none⟩) l c) rows := by
  obtain ⟨_, _, e⟩ := h.caps
  subst e
  have := OSl.src (M := M) (k := 0) (c' := c) h hH h1
  simpa using this
theorem rep_one {N : Segs} (h : flat N) : ∀ (k : Nat), ∀ u ∈ rowsCells (List.replicate k N), u.oneCell' = true
  | 0, u, hu => by cases hu
  | k + 1, u, hu => by
    rcases List.mem_append.1 (show u ∈ Segs.cells N ++ rowsCells (List.replicate k N) from hu) with hu | hu
    · exact h u hu
    · exact rep_one h k u hu
theorem rep_first {N Z : Segs} {n : Nat} (h : 1 ≤ n) : (List.replicate n Z).take 0 ++ [N].take (min [N].length n) ++ (List.replicate n Z).drop (0 + min [N].length n) = List.replicate 1 N ++ List.replicate (n - 1) Z := by
  have e : min [N].length n = 1 := by simp; omega
  rw [e]; simp
theorem rep_take {N Z : Segs} {n k : Nat} : (List.replicate k N ++ List.replicate (n - k) Z).take k = List.replicate k N := by
  rw [List.take_append_of_le_length (by simp)]; simp
theorem rep_next {N Z : Segs} {n k m : Nat} (hk : k ≤ n) (hm : m ≤ k) (hmn : m ≤ n - k) : (List.replicate k N ++ List.replicate (n - k) Z).take k ++ (List.replicate k N).take m ++ (List.replicate k N ++ List.replicate (n - k) Z).drop (k + m) = List.replicate (k + m) N ++ List.replicate (n - (k + m)) Z := by
  rw [rep_take, List.take_replicate, Nat.min_eq_left hm, List.drop_append, List.drop_of_length_le (by simp), List.nil_append, List.drop_replicate, List.replicate_append_replicate]
  simp only [List.length_replicate]
  congr 2
  omega
theorem flat_all {r : Segs} (h : flat r) : (aggV r).cells.all (fun u => u.oneCell') = true := by
  rw [Array.all_eq_true_iff_forall_mem]
  intro u hu
  exact h u (by simpa [aggV, Value.cells] using hu)
theorem OSl.someB {T sz l c : Nat} {a : Option Addr} {hs : Hp} {rows : List Segs} (h : OSl T sz (.slice a l c) hs rows) (hl : 0 < l) : ∃ b, a = some ⟨b, 0, Option.none⟩ := by
  generalize hv : Value.slice a l c = v at h
  cases h with
  | nil => cases hv; cases hl
  | own b c' _ cur g1 g2 g3 g4 g5 => cases hv; exact ⟨b, rfl⟩
/-- A call that turns blocks of ours that lie in two places. -/
theorem X_fhR2 {f : FuncId} {xs : List Operand} {ats : Array TypeId} {vs : List Value} {Hin Hin2 H1 Hr : Hp} {R : Mem → Value → Hp → Prop} {MJ : Mem} {HJ : Hp} (hi : ops[i]? = some ⟨dst, .call ⟨.value (.func f), xs.toArray, ats⟩, ty, pos, af, gd⟩) (hg : want ops e gd = some true)
    (hf : okFn P f = true) (hx : evs e xs = some vs) (hc : Fh P f vs M (Hin ++ Hin2) R) (hH : Rem Hin H H1) (hH2 : Rem Hin2 H1 Hr) (hJ : ∀ v M' Hout w, M.le M' → R M' v Hout → St M' (Hout ++ Hr) w → St MJ HJ w)
    (hd : ∀ a v, Sat n e a → Sat n (putE dst v e) (a.put dst v))
    (hk : ∀ v M' Hout, M.le M' → R M' v Hout → XD P n ops Q rest (St MJ HJ) ⟨M', Hout ++ Hr⟩ (putE dst v e)) : XD P n ops Q (i :: rest) (St MJ HJ) ⟨M, H⟩ e := by
  obtain ⟨fn, h1, h2, h3⟩ := okFn_spec hf
  have hP : H.Perm ((Hin ++ Hin2) ++ Hr) := (hH.perm.trans (hH2.perm.append_left Hin)).trans (List.append_assoc _ _ _ ▸ List.Perm.refl _)
  refine X_effJ hi rfl hg (fun _ a F w ha hw => does_call h1 h2 h3 (by simpa using ha.evs hx) ?_)
  exact (hc (F ++ Hr) w (hw.perm0 ((hP.append_left F).trans (swapF F (Hin ++ Hin2) Hr)))).mono fun e' w' ⟨v, M', Hout, he, hm, hs, hr⟩ => ⟨v, he, ⟨M', Hout ++ Hr⟩, _, hs.perm0 (swapF F Hout Hr).symm, fun u hu => hJ v M' Hout u hm hr hu, hd a v ha, hk v M' Hout hm hr⟩
end
end Go.Esp
/-
  Fingers and arcs of circles, in plain Lean.
-/
set_option linter.unusedSimpArgs false
set_option linter.unusedVariables false
set_option linter.unnecessarySimpa false
namespace Go.Esp
def fingerAt (l : List PeerV) (p : PeerV) (k : Nat) : Int := ((ownerI l (p.id + powP k) : Nat) : Int)
def fingersR (l : List PeerV) (i : Int) : List Int × Int := if h : IsCircle l ∧ 0 ≤ i ∧ i < l.length then ((List.range 160).map (fingerAt l (l[i.toNat]'(by omega))), 0) else ([], 1)
theorem fingersR_yes {l : List PeerV} {i : Nat} (h : IsCircle l) (hi : i < l.length) : fingersR l (i : Int) = ((List.range 160).map (fingerAt l l[i]), 0) := by
  unfold fingersR
  rw [dif_pos ⟨h, by omega, by omega⟩]
  simp only [Int.toNat_natCast]
theorem fingersR_no {l : List PeerV} {i : Int} (h : ¬ (IsCircle l ∧ 0 ≤ i ∧ i < l.length)) : fingersR l i = ([], 1) := dif_neg h
/-- The first k of 160 are known. -/
def fillL (f : Nat → Int) (k : Nat) : List Int := (List.range 160).map fun j => if j < k then f j else 0
theorem fillL_zero (f : Nat → Int) : fillL f 0 = List.replicate 160 0 := by
  unfold fillL
  simp only [Nat.not_lt_zero, if_false]
  exact List.map_const' ..
theorem fillL_all (f : Nat → Int) : fillL f 160 = (List.range 160).map f := by
  unfold fillL
  refine List.map_congr_left fun j hj => ?_
  rw [if_pos (List.mem_range.1 hj)]
theorem fillL_len (f : Nat → Int) (k : Nat) : (fillL f k).length = 160 := by unfold fillL; simp
theorem fillL_set (f : Nat → Int) {k : Nat} (hk : k < 160) {v : Int} (hv : v = f k) : (fillL f k).set k v = fillL f (k + 1) := by
  unfold fillL
  refine List.ext_getElem (by simp) fun j h1 h2 => ?_
  rw [List.getElem_set]
  simp only [List.getElem_map, List.getElem_range]
  split
  · rename_i h; subst h; rw [if_pos (by omega)]; exact hv
  · rename_i h
    by_cases h3 : j < k
    · rw [if_pos h3, if_pos (by omega)]
    · rw [if_neg h3, if_neg (by omega)]
def IntsE (M : Mem) (v : Value) (r : List Int × Int) : Prop := ∃ s : Sl Int, v = .tuple #[s.val, .int .i64 r.2] ∧ s.l = r.1 ∧ SlK M (oneI .i64) 1 s
def arcR (l : List PeerV) (i : Int) : Plc × Plc × Int := if h : IsCircle l ∧ 0 ≤ i ∧ i < l.length then ((l[(i.toNat + l.length - 1) % l.length]'(Nat.mod_lt _ (by have := h.1.1; omega))).id, (l[i.toNat]'(by omega)).id, 0) else (0, 0, 1)
theorem arcR_yes {l : List PeerV} {i : Nat} (h : IsCircle l) (hi : i < l.length) : arcR l (i : Int) = ((l[(i + l.length - 1) % l.length]'(Nat.mod_lt _ (by omega))).id, l[i].id, 0) := by
  unfold arcR
  rw [dif_pos ⟨h, by omega, by omega⟩]
  simp only [Int.toNat_natCast]
theorem arcR_no {l : List PeerV} {i : Int} (h : ¬ (IsCircle l ∧ 0 ≤ i ∧ i < l.length)) : arcR l i = (0, 0, 1) := dif_neg h
def ofArc (r : Plc × Plc × Int) : Value := .tuple #[aggV [idSeg r.1], aggV [idSeg r.2.1], .int .i64 r.2.2]
end Go.Esp
/-
  How far it is on a ring; owners: in plain Lean (for seats without tables).
-/
set_option linter.unusedSimpArgs false
set_option linter.unusedVariables false
set_option linter.unnecessarySimpa false
namespace Go.Esp
theorem less_ne {a b : Plc} (h : LessP a b) : a ≠ b := fun e => by subst e; exact Nat.lt_irrefl _ h
theorem circ_id {l : List PeerV} (h : CircOk l) {i j : Nat} (hi : i < l.length) (hj : j < l.length) (hn : i ≠ j) : l[i].id ≠ l[j].id := by
  rcases Nat.lt_or_gt_of_ne hn with h1 | h1
  · exact less_ne (List.pairwise_iff_getElem.1 h.2.2 i j hi hj h1)
  · exact (less_ne (List.pairwise_iff_getElem.1 h.2.2 j i hj hi h1)).symm
theorem circ_addr {l : List PeerV} (h : CircOk l) {i j : Nat} (hi : i < l.length) (hj : j < l.length) (hn : i ≠ j) : l[i].addr ≠ l[j].addr := by
  have key : ∀ i j (hi : i < l.length) (hj : j < l.length), i < j → l[i].addr ≠ l[j].addr := fun i j hi hj h1 => by
    have := List.pairwise_iff_getElem.1 h.2.1 i j (by simpa using hi) (by simpa using hj) h1
    simpa using this
  rcases Nat.lt_or_gt_of_ne hn with h1 | h1
  · exact key i j hi hj h1
  · exact (key j i hj hi h1).symm
/-- How far it is from a to b, clockwise. -/
def D (a b : Plc) : Nat := (b - a).toNat
theorem D_cases (a b : Plc) : (a.toNat ≤ b.toNat ∧ D a b = b.toNat - a.toNat) ∨ (b.toNat < a.toNat ∧ D a b = 2 ^ 160 - a.toNat + b.toNat) := by
  have h1 := a.isLt; have h2 := b.isLt
  unfold D
  rw [BitVec.toNat_sub]
  omega
theorem open_D {a x b : Plc} : OpenP a x b ↔ x.toNat ≠ a.toNat ∧ (a.toNat = b.toNat ∨ D a x < D a b) := by
  unfold OpenP LessP
  rw [show (x ≠ a) ↔ x.toNat ≠ a.toNat from not_congr plc_nat, plc_nat (a := a) (b := b)]
  rfl
theorem half_D {a x b : Plc} : HalfP a x b ↔ x.toNat = b.toNat ∨ (x.toNat ≠ a.toNat ∧ (a.toNat = b.toNat ∨ D a x < D a b)) := by
  unfold HalfP
  rw [open_D, plc_nat]
theorem nxt_cases {i n : Nat} (h : i < n) : (i + 1 < n ∧ (i + 1) % n = i + 1) ∨ (i + 1 = n ∧ (i + 1) % n = 0) := by
  rcases Nat.lt_or_ge (i + 1) n with h1 | h1
  · exact .inl ⟨h1, Nat.mod_eq_of_lt h1⟩
  · obtain rfl : n = i + 1 := by omega
    exact .inr ⟨rfl, Nat.mod_self _⟩
theorem prv_cases {i n : Nat} (h : i < n) : (0 < i ∧ (i + n - 1) % n = i - 1) ∨ (i = 0 ∧ (i + n - 1) % n = n - 1) := by
  rcases Nat.eq_zero_or_pos i with h1 | h1
  · subst h1
    exact .inr ⟨rfl, by rw [Nat.zero_add]; exact Nat.mod_eq_of_lt (by omega)⟩
  · refine .inl ⟨h1, ?_⟩
    rw [show i + n - 1 = (i - 1) + n by omega, Nat.add_mod_right]
    exact Nat.mod_eq_of_lt (by omega)
theorem least_of {p : Nat → Bool} : ∀ {n j : Nat}, j < n → p j = true → ∃ k, k < n ∧ p k = true ∧ ∀ i, i < k → p i = false
  | 0, j, h, _ => by omega
  | n + 1, j, h, hp => by
    by_cases he : ∃ i, i < n ∧ p i = true
    · obtain ⟨i, hi, hpi⟩ := he
      obtain ⟨k, h1, h2, h3⟩ := least_of hi hpi
      exact ⟨k, by omega, h2, h3⟩
    · have hj : j = n := by
        rcases Nat.lt_or_ge j n with h1 | h1
        · exact (he ⟨j, h1, hp⟩).elim
        · omega
      subst hj
      refine ⟨j, h, hp, fun i hi => ?_⟩
      cases hq : p i with
      | false => rfl
      | true => exact (he ⟨i, hi, hq⟩).elim
section
variable {l : List PeerV}
/-- The i-th place, as a number. -/
def idN (l : List PeerV) (i : Nat) : Nat := match l[i]? with
  | some p => p.id.toNat
  | none => 0
theorem idN_at {i : Nat} (h : i < l.length) : l[i].id.toNat = idN l i := by unfold idN; rw [List.getElem?_eq_getElem h]
theorem idN_lt (l : List PeerV) (i : Nat) : idN l i < 2 ^ 160 := by
  unfold idN
  split
  · rename_i p _; exact p.id.isLt
  · decide
theorem idN_mono (h : CircOk l) {i j : Nat} (hj : j < l.length) (hij : i < j) : idN l i < idN l j := by
  have := List.pairwise_iff_getElem.1 h.2.2 i j (by omega) hj hij
  rw [← idN_at hj, ← idN_at (show i < l.length by omega)]
  exact this
theorem idN_le (h : CircOk l) {i j : Nat} (hj : j < l.length) (hij : i ≤ j) : idN l i ≤ idN l j := by
  rcases Nat.lt_or_ge i j with h1 | h1
  · exact Nat.le_of_lt (idN_mono h hj h1)
  · obtain rfl : i = j := by omega
    exact Nat.le_refl _
/-- Nobody stands between a peer and the next one. -/
theorem next_min (h : CircOk l) {i j k : Nat} (hi : i < l.length) (hj : j < l.length) (hn : j ≠ i) (hk : k < l.length) (hk2 : (i + 1) % l.length = k) : D l[i].id l[k].id ≤ D l[i].id l[j].id := by
  have c1 := D_cases l[i].id l[k].id
  have c2 := D_cases l[i].id l[j].id
  simp only [idN_at] at c1 c2
  have b1 := idN_lt l i; have b2 := idN_lt l j; have b3 := idN_lt l k
  rcases nxt_cases hi with ⟨h1, h2⟩ | ⟨h1, h2⟩
  · rw [h2] at hk2; subst hk2
    have m1 := idN_mono h h1 (Nat.lt_succ_self i)
    rcases Nat.lt_or_gt_of_ne hn with h3 | h3
    · have m2 := idN_mono h hi h3; omega
    · have m2 := idN_le h hj (show i + 1 ≤ j by omega); omega
  · rw [h2] at hk2; subst hk2
    have h3 : j < i := by omega
    have m1 := idN_mono h hi h3
    have m2 := idN_le h hj (Nat.zero_le j)
    omega
theorem owner_spec (h : CircOk l) (h0 : 0 < l.length) (x : Plc) : (∃ o, o < l.length ∧ ownerI l x = o ∧ (∀ j, j < o → idN l j < x.toNat) ∧ x.toNat ≤ idN l o) ∨ (ownerI l x = 0 ∧ ∀ j, j < l.length → idN l j < x.toNat) := by
  by_cases he : ∃ j, j < l.length ∧ pO l x j = true
  · obtain ⟨j, hj, hpj⟩ := he
    obtain ⟨o, ho, hpo, hm⟩ := least_of hj hpj
    refine .inl ⟨o, ho, ownerI_at ho hm hpo, fun j hj => ?_, ?_⟩
    · have h9 := hm j hj
      rw [pO_at (by omega)] at h9
      have h7 : LessP l[j].id x := Decidable.not_not.1 (of_decide_eq_false h9)
      unfold LessP at h7
      rw [idN_at] at h7; exact h7
    · rw [pO_at ho] at hpo
      have h8 := of_decide_eq_true hpo
      unfold LessP at h8
      rw [idN_at] at h8; omega
  · have hm : ∀ j, j < l.length → pO l x j = false := fun j hj => by
      cases hq : pO l x j with
      | false => rfl
      | true => exact (he ⟨j, hj, hq⟩).elim
    refine .inr ⟨ownerI_none hm, fun j hj => ?_⟩
    have h9 := hm j hj
    rw [pO_at hj] at h9
    have h7 : LessP l[j].id x := Decidable.not_not.1 (of_decide_eq_false h9)
    unfold LessP at h7
    rw [idN_at] at h7; exact h7
/-- The owner is the first one, clockwise. -/
theorem owner_min (h : CircOk l) {x : Plc} {o j : Nat} (ho : o < l.length) (ho2 : ownerI l x = o) (hj : j < l.length) : D x l[o].id ≤ D x l[j].id := by
  have c1 := D_cases x l[o].id
  have c2 := D_cases x l[j].id
  simp only [idN_at] at c1 c2
  have b1 := idN_lt l o; have b2 := idN_lt l j; have b3 := x.isLt
  rcases owner_spec h (by omega) x with ⟨o', _, h1, h2, h3⟩ | ⟨h1, h2⟩
  · rw [h1] at ho2; subst ho2
    rcases Nat.lt_or_ge j o' with h4 | h4
    · have := h2 j h4; omega
    · have := idN_le h hj h4; omega
  · rw [h1] at ho2; subst ho2
    have m1 := h2 j hj; have m2 := h2 0 ho; have m3 := idN_le h hj (Nat.zero_le j)
    omega
/-- A place lies in the arc of its owner. -/
theorem owner_arc (h : CircOk l) {x : Plc} {o p : Nat} (ho : o < l.length) (ho2 : ownerI l x = o) (hp : p < l.length) (hp2 : (o + l.length - 1) % l.length = p) : HalfP l[p].id x l[o].id := by
  rw [half_D]
  have c1 := D_cases l[p].id x
  have c2 := D_cases l[p].id l[o].id
  simp only [idN_at] at c1 c2 ⊢
  have b1 := idN_lt l o; have b2 := idN_lt l p; have b3 := x.isLt
  rcases prv_cases ho with ⟨g1, g2⟩ | ⟨g1, g2⟩
  · rw [g2] at hp2; subst hp2
    have m := idN_mono h ho (show o - 1 < o by omega)
    rcases owner_spec h (by omega) x with ⟨o', _, h1, h2, h3⟩ | ⟨h1, h2⟩
    · rw [h1] at ho2; subst ho2
      have := h2 (o' - 1) (by omega); omega
    · rw [h1] at ho2; omega
  · rw [g2] at hp2; subst g1; subst hp2
    have m := idN_le h hp (Nat.zero_le _)
    rcases owner_spec h (by omega) x with ⟨o', _, h1, h2, h3⟩ | ⟨h1, h2⟩
    · rw [h1] at ho2; subst ho2
      rcases Nat.eq_or_lt_of_le m with m1 | m1 <;> omega
    · have := h2 _ hp
      have := h2 0 ho
      rcases Nat.eq_or_lt_of_le m with m1 | m1 <;> omega
/-- Who is done knows the owner: it is the next one. -/
theorem done_owner (h : CircOk l) {x : Plc} {i k : Nat} (hi : i < l.length) (hk : k < l.length) (hk2 : (i + 1) % l.length = k) (hd : HalfP l[i].id x l[k].id) : ownerI l x = k := by
  rw [half_D] at hd
  have c1 := D_cases l[i].id x
  have c2 := D_cases l[i].id l[k].id
  simp only [idN_at] at c1 c2 hd
  have b1 := idN_lt l i; have b2 := idN_lt l k; have b3 := x.isLt
  rcases nxt_cases hi with ⟨g1, g2⟩ | ⟨g1, g2⟩
  · rw [g2] at hk2; subst hk2
    have m := idN_mono h hk (Nat.lt_succ_self i)
    rcases owner_spec h (by omega) x with ⟨o, h0, h1, h2, h3⟩ | ⟨h1, h2⟩
    · rw [h1]
      rcases Nat.lt_trichotomy o (i + 1) with h4 | h4 | h4
      · have := idN_le h hi (show o ≤ i by omega); omega
      · exact h4
      · have := h2 (i + 1) h4; omega
    · have := h2 _ hk; omega
  · rw [g2] at hk2; subst hk2
    have m := idN_le h hi (Nat.zero_le i)
    rcases owner_spec h (by omega) x with ⟨o, h0, h1, h2, h3⟩ | ⟨h1, h2⟩
    · rw [h1]
      rcases Nat.eq_zero_or_pos o with h4 | h4
      · exact h4
      · have m1 := h2 0 h4
        have m2 := idN_le h hi (show o ≤ i by omega)
        omega
    · exact h1
/-- Who is not done has the next one ahead of the place. -/
theorem next_open (h : CircOk l) {x : Plc} {i k : Nat} (hi : i < l.length) (hk : k < l.length) (hk2 : (i + 1) % l.length = k) (hd : ¬ HalfP l[i].id x l[k].id) : k ≠ i ∧ OpenP l[i].id l[k].id x := by
  rw [half_D] at hd
  rw [open_D]
  have hne : k ≠ i := fun e => by subst e; omega
  refine ⟨hne, ?_⟩
  have hid := circ_id h hk hi hne
  rw [ne_eq, plc_nat] at hid
  have c1 := D_cases l[i].id x
  have c2 := D_cases l[i].id l[k].id
  simp only [idN_at] at c1 c2 hd hid ⊢
  have b1 := idN_lt l i; have b2 := idN_lt l k; have b3 := x.isLt
  omega
end
end Go.Esp
/-
  Laws of circles, in plain Lean.
-/
set_option linter.unusedSimpArgs false
set_option linter.unusedVariables false
set_option linter.unnecessarySimpa false
namespace Go.Esp
def copiesR (l : List PeerV) (x : Plc) (r : Int) : List Int × Int := if IsCircle l ∧ 1 ≤ r ∧ r ≤ 8 then ((List.range (min r.toNat l.length)).map fun k => (((ownerI l x + k) % l.length : Nat) : Int), 0) else ([], 1)
theorem copiesR_yes {l : List PeerV} {x : Plc} {r : Nat} (h : IsCircle l) (h1 : 1 ≤ r) (h2 : r ≤ 8) : copiesR l x (r : Int) = ((List.range (min r l.length)).map fun k => (((ownerI l x + k) % l.length : Nat) : Int), 0) := by
  unfold copiesR
  rw [if_pos ⟨h, by omega, by omega⟩]
  simp only [Int.toNat_natCast]
theorem copiesR_no {l : List PeerV} {x : Plc} {r : Int} (h : ¬ (IsCircle l ∧ 1 ≤ r ∧ r ≤ 8)) : copiesR l x r = ([], 1) := if_neg h
/-- A place is in the arc of just its owner. -/
theorem arc_iff {l : List PeerV} (h : CircOk l) {x : Plc} {i p : Nat} (hi : i < l.length) (hp : p < l.length) (hp2 : (i + l.length - 1) % l.length = p) : HalfP l[p].id x l[i].id ↔ i = ownerI l x := by
  have hpi : (p + 1) % l.length = i := by
    rcases prv_cases hi with ⟨g1, g3⟩ | ⟨g1, g3⟩
    · rw [g3] at hp2; subst hp2
      rw [show i - 1 + 1 = i by omega]; exact Nat.mod_eq_of_lt hi
    · rw [g3] at hp2; subst hp2; subst g1
      rw [show l.length - 1 + 1 = l.length by omega]; exact Nat.mod_self _
  constructor
  · intro hh; exact (done_owner h hp hi hpi hh).symm
  · intro e; subst e; exact owner_arc h hi rfl hp hp2
/-! One goes. -/
def sansI (l : List PeerV) (i : Nat) : List PeerV := l.take i ++ l.drop (i + 1)
theorem sansI_len {l : List PeerV} {i : Nat} (hi : i < l.length) : (sansI l i).length = l.length - 1 := by unfold sansI; simp; omega
theorem sansI_at {l : List PeerV} {i j : Nat} (hi : i < l.length) (hj : j + 1 < l.length) : (sansI l i)[j]? = if j < i then l[j]? else l[j + 1]? := by
  unfold sansI
  rcases Nat.lt_or_ge j i with h | h
  · rw [if_pos h, List.getElem?_append_left (by simp; omega), List.getElem?_take_of_lt h]
  · rw [if_neg (by omega), List.getElem?_append_right (by simp; omega), List.getElem?_drop]
    congr 1; simp; omega
theorem sansI_sub {l : List PeerV} {i : Nat} : (sansI l i).Sublist l := by
  unfold sansI
  conv => rhs; rw [← List.take_append_drop i l]
  exact List.Sublist.append_left (List.drop_sublist_drop_left l (Nat.le_succ i)) _
theorem sansI_circ {l : List PeerV} (h : IsCircle l) (h2 : 2 ≤ l.length) {i : Nat} (hi : i < l.length) : IsCircle (sansI l i) := by
  have hl := sansI_len hi
  have h16 := h.1.2
  exact ⟨⟨by omega, by omega⟩, fun p hp => h.2.1 p (sansI_sub.subset hp), h.2.2.1.sublist (sansI_sub.map _), h.2.2.2.sublist sansI_sub⟩
theorem sansI_idN {l : List PeerV} {i j : Nat} (hi : i < l.length) (hj : j + 1 < l.length) : idN (sansI l i) j = if j < i then idN l j else idN l (j + 1) := by
  unfold idN
  rw [sansI_at hi hj]
  by_cases h : j < i
  · rw [if_pos h, if_pos h]
  · rw [if_neg h, if_neg h]
/-- Its places are owned by the one behind it; all others stay with theirs. -/
theorem goes_to {l : List PeerV} (h : IsCircle l) (h2 : 2 ≤ l.length) {i o w q : Nat} {x : Plc} (hi : i < l.length) (ho : ownerI l x = o) (hol : o < l.length) (hw : w < l.length) (hw2 : (o + 1) % l.length = w) (hq : ownerI (sansI l i) x = q) (hql : q < (sansI l i).length) :
    (sansI l i)[q] = if o = i then l[w] else l[o] := by
  have hl := sansI_len hi
  have hc := sansI_circ h h2 hi
  have hs := sansI_at (j := q) hi (by omega)
  rw [List.getElem?_eq_getElem hql] at hs
  have key : (if q < i then q else q + 1) = (if o = i then w else o) := by
    have hid : ∀ j, j + 1 < l.length → idN (sansI l i) j = if j < i then idN l j else idN l (j + 1) := fun j hj => sansI_idN hi hj
    have hqi := hid q (by omega)
    have hx : ∀ j, j < q → (if j < i then idN l j else idN l (j + 1)) < x.toNat := fun j hj => by
      rcases owner_spec hc.2 (by omega) x with ⟨q', _, g1, g2, g3⟩ | ⟨g1, g2⟩
      · rw [g1] at hq; subst hq
        have := g2 j hj; rw [hid j (by omega)] at this; exact this
      · rw [g1] at hq; omega
    rcases owner_spec h.2 (by omega) x with ⟨o', _, a1, a2, a3⟩ | ⟨a1, a2⟩
    · rw [a1] at ho; subst ho
      rcases owner_spec hc.2 (by omega) x with ⟨q', _, g1, g2, g3⟩ | ⟨g1, g2⟩
      · rw [g1] at hq; subst hq
        rw [hqi] at g3
        -- the first one that is not ahead of x, without i
        rcases Nat.lt_or_ge q' i with c1 | c1
        · rw [if_pos c1] at g3 ⊢
          rcases Nat.lt_trichotomy q' o' with c2 | c2 | c2
          · have := a2 q' c2; omega
          · rw [if_neg (by omega)]; exact c2
          · exfalso
            have := hx o' c2
            rw [if_pos (by omega)] at this; omega
        · rw [if_neg (by omega)] at g3 ⊢
          rcases Nat.lt_trichotomy (q' + 1) o' with c2 | c2 | c2
          · have := a2 (q' + 1) c2; omega
          · rw [if_neg (by omega)]; exact c2
          · by_cases c3 : o' = i
            · rw [if_pos c3]
              rcases nxt_cases hol with ⟨n1, n2⟩ | ⟨n1, n2⟩
              · rw [n2] at hw2; subst hw2
                rcases Nat.lt_or_ge o' q' with c4 | c4
                · exfalso
                  have := hx o' (by omega)
                  rw [if_neg (by omega)] at this
                  have := idN_le h.2 n1 (Nat.le_succ o')
                  omega
                · omega
              · omega
            · exfalso
              rcases Nat.lt_or_ge o' i with c4 | c4
              · have := hx o' (by omega)
                rw [if_pos c4] at this; omega
              · have := hx (o' - 1) (by omega)
                rw [if_neg (by omega), show o' - 1 + 1 = o' by omega] at this; omega
      · rw [g1] at hq; subst hq
        -- all others stand ahead of x: only i is not
        have c3 : o' = i := by
          apply Decidable.byContradiction
          intro c3
          rcases Nat.lt_or_ge o' i with c4 | c4
          · have := g2 o' (by omega)
            rw [hid o' (by omega), if_pos c4] at this; omega
          · have := g2 (o' - 1) (by omega)
            rw [hid (o' - 1) (by omega), if_neg (by omega), show o' - 1 + 1 = o' by omega] at this; omega
        rw [if_pos c3]
        subst c3
        rcases nxt_cases hol with ⟨n1, n2⟩ | ⟨n1, n2⟩
        · exfalso
          have := g2 o' (by omega)
          rw [hid o' (by omega), if_neg (by omega)] at this
          have := idN_le h.2 n1 (Nat.le_succ o')
          omega
        · rw [n2] at hw2; subst hw2
          rw [if_pos (by omega)]
    · rw [a1] at ho; subst ho
      have q0 : q = 0 := by
        rcases owner_spec hc.2 (by omega) x with ⟨q', g0, g1, g2, g3⟩ | ⟨g1, g2⟩
        · rw [g1] at hq; subst hq
          rw [hqi] at g3
          have m1 := a2 q' (by omega)
          have m2 := a2 (q' + 1) (by omega)
          split at g3 <;> omega
        · omega
      subst q0
      by_cases c3 : 0 = i
      · rw [if_pos c3, if_neg (by omega)]
        rcases nxt_cases hol with ⟨n1, n2⟩ | ⟨n1, n2⟩ <;> omega
      · rw [if_neg c3, if_pos (by omega)]
  split at hs
  · rename_i c1
    rw [if_pos c1] at key
    rw [List.getElem?_eq_getElem (by omega)] at hs
    rw [Option.some.inj hs]
    split at key <;> rename_i c2 <;> subst key
    · rw [if_pos c2]
    · rw [if_neg c2]
  · rename_i c1
    rw [if_neg c1] at key
    rw [List.getElem?_eq_getElem (by omega)] at hs
    rw [Option.some.inj hs]
    split at key <;> rename_i c2 <;> subst key
    · rw [if_pos c2]
    · rw [if_neg c2]
end Go.Esp
/-
  More rules: scopes that nothing jumps in; maps that are nil; how many a map has; the lesser of two.
-/
set_option linter.unusedSimpArgs false
set_option linter.unusedVariables false
set_option linter.unnecessarySimpa false
namespace Go.Esp
section
variable {P : Program} {n : Sh} {ops : Array Oper} {Q : Exit → Act → World → Prop} {rest : List Nat} {M M' : Mem} {H H' H0 : Hp} {e : Env} {J S : World → Prop} {A : As} {i : Nat}
  {dst : Option Tmp} {d : Tmp} {op : Op} {ty : TypeId} {pos : String} {af : Array Edge} {gd : Option (Nat × Bool)}

theorem C_scope {c : Code} (hro : n.ro = none) (h : C P n c (Exit.noGoto Q) S e) : C P n (.scope c) Q S e := by
  intro a w ha hw
  have h1 := h a w ha hw
  rw [hro] at h1 ⊢
  rw [Fr_none] at h1 ⊢
  exact wpIn_wide.2 (wp_scope_straight (wpIn_wide.1 h1))
theorem K_scopeN (h : K n Q .normal S e) : K n (Exit.noGoto Q) .normal S e := h
theorem K_scopeR (h : K n Q .ret S e) : K n (Exit.noGoto Q) .ret S e := h
theorem K_scopeX {id : Nat} (h : K n Q (.exit id) S e) : K n (Exit.noGoto Q) (.exit id) S e := h

theorem X_lookup2_nil {t k el : TypeId} {x y : Operand} {z : Int} {zv : Value} (hi : ops[i]? = some ⟨some d, .lookup t x y true, ty, pos, af, gd⟩) (hg : want ops e gd = some true)
    (hx : ev e x = some (.map none)) (hy : ev e y = some (.int .i64 z)) (ht : mapOf P t = some (k, el)) (hz : zeroOf P el = some zv) (hd : Nat.ble (d + 1) n.sz = true)
    (hk : XD P n ops Q rest J A ((d, .tuple #[zv, .bool false]) :: e)) : XD P n ops Q (i :: rest) J A e :=
  X_read hi rfl hg (fun a' w ha hw => runs_of (by
    simp only [execOp, ha.ev hx, ha.ev hy]
    refine run_v ?_
    obtain ⟨h1, h2⟩ := mapOf_spec ht
    have hzv : (zeroValue el).run P w = .ok zv w := by
      unfold zeroOf at hz
      split at hz
      · rename_i it hit; simp [zeroValue, typeInfo, hit, hz]
      · cases hz
    unfold Instr.lookup
    rw [run_bind_ok (run_underlying' h1)]
    simp only []
    rw [run_bind_ok (show (pure #[] : Sem (Array MapEntry)).run P w = .ok #[] w from rfl), run_bind_ok (run_checkKey_int h2), run_bind_ok (run_findKey (es := #[]) (l := []) h2 rfl)]
    simp only [imGet]
    rw [run_bind_ok hzv]
    rfl)) (fun a ha => ha.put hd _) hk

theorem X_len_map {t k el : TypeId} {x : Operand} {b : Nat} {o : Obj} {l : IM} {MJ : Mem} {HJ : Hp} {ats : Array TypeId} (hi : ops[i]? = some ⟨some d, .call ⟨.builtin .len, #[x], ats⟩, ty, pos, af, gd⟩) (hg : want ops e gd = some true)
    (hx : ev e x = some (.map (some b))) (hat : ats[0]? = some t) (ht : mapOf P t = some (k, el)) (hb : (b, o) ∈ HJ) (ho : imO o l) (hd : Nat.ble (d + 1) n.sz = true) (hk : XD P n ops Q rest (St MJ HJ) A ((d, .int .i64 (l.length : Int)) :: e)) : XD P n ops Q (i :: rest) (St MJ HJ) A e :=
  X_read hi rfl hg (fun a' w ha hw => runs_of (by
    obtain ⟨h1, h2⟩ := mapOf_spec ht
    obtain ⟨es, c, rfl, hkv⟩ := ho
    have hl : es.size = l.length := by have := congrArg List.length hkv; simpa [kvs] using this
    simp only [execOp, resolve]
    simp [invoke, builtin, Builtin.len_, ha.ev hx, hat, run_underlying' h1, run_getObj' (hw.own _ _ hb), goInt, hl])) (fun a ha => ha.put hd _) hk

theorem X_min {x y : Operand} {p q r : Int} {ats : Array TypeId} (hi : ops[i]? = some ⟨some d, .call ⟨.builtin .min, #[x, y], ats⟩, ty, pos, af, gd⟩) (hg : want ops e gd = some true)
    (hx : ev e x = some (.int .i64 p)) (hy : ev e y = some (.int .i64 q)) (hr : (if q < p then q else p) = r) (hd : Nat.ble (d + 1) n.sz = true) (hk : XD P n ops Q rest J A ((d, .int .i64 r) :: e)) : XD P n ops Q (i :: rest) J A e :=
  X_read hi rfl hg (fun a' w ha _ => runs_of (by
    subst hr
    simp only [execOp, resolve]
    simp [invoke, builtin, Builtin.min_, Builtin.min2, ha.ev hx, ha.ev hy])) (fun a ha => ha.put hd _) hk
theorem X_cap_sl {t E sz by_ : Nat} {x : Operand} {a : Option Addr} {l c : Nat} {ats : Array TypeId} (hi : ops[i]? = some ⟨some d, .call ⟨.builtin .cap, #[x], ats⟩, ty, pos, af, gd⟩) (hg : want ops e gd = some true)
    (hx : ev e x = some (.slice a l c)) (hat : ats[0]? = some t) (ht : slOf P t = some (E, sz, by_)) (hd : Nat.ble (d + 1) n.sz = true) (hk : XD P n ops Q rest J A ((d, .int .i64 (c : Int)) :: e)) : XD P n ops Q (i :: rest) J A e :=
  X_read hi rfl hg (fun a' w ha _ => runs_of (by
    obtain ⟨it, hu, _⟩ := elemOf_spec ht
    simp only [execOp, resolve]
    simp [invoke, builtin, Builtin.cap_, ha.ev hx, hat, run_underlying hu, goInt])) (fun a ha => ha.put hd _) hk

/-- Room for k elements, none of them there yet: append(nil, make([]T, k)...). -/
theorem X_appendZ {t tn E sz by_ k : Nat} {z : Value} {kn : IntKind} {x y : Operand} (hi : ops[i]? = some ⟨some d, .call ⟨.builtin .append, #[x, y], #[t, tn]⟩, ty, pos, af, gd⟩) (hg : want ops e gd = some true)
    (hx : ev e x = some (.slice none 0 0)) (hy : ev e y = some (.int .i64 (k : Int))) (ht : slOf P t = some (E, sz, by_)) (htn : P.underlying tn = some (.int kn)) (hz : zeroOf P E = some z) (hzs : z.cells.size = sz) (hsz : Nat.ble 1 sz = true) (h0 : 0 < k) (hk9 : k ≤ 16777216) (hkb : k * by_ ≤ 140737488355328) (hd : Nat.ble (d + 1) n.sz = true)
    (hk : ∀ (b c : Nat) hs', k ≤ c → OSl E sz (.slice (some ⟨b, 0, none⟩) 0 c) hs' [] → XD P n ops Q rest (St M (hs' ++ H)) ⟨M, hs' ++ H⟩ ((d, .slice (some ⟨b, 0, none⟩) k c) :: e)) (hnw : n.wrs.contains i = false := by rfl) : XD P n ops Q (i :: rest) J ⟨M, H⟩ e := by
  refine X_mut hi rfl hg (fun a w ha hw => ?_) hnw
  obtain ⟨it, hu, hit, rfl, rfl⟩ := elemOf_spec ht
  have hz' : it.zero = some z := by simpa [zeroOf, hit] using hz
  have hpos : 1 ≤ it.size := Nat.le_of_ble_eq_true hsz
  have hr := Lib.run_append_nil_zeros (P := P) w t tn ty E it z .i64 kn hu htn hit hz' k h0 (by omega) (by omega) (by omega)
  have hge := grownCap_ge w k 0 E
  have hcm : grownCap w k 0 E ≤ maxLen := grownCap_le_maxLen w k 0 E (by simp only [maxLen]; omega)
  have h0' : St M H w.drew := hw.heap rfl ⟨rfl, rfl, rfl, Nat.le_succ _⟩
  have h2 := h0'.alloc (.cells (Builtin.zeroCells z.cells k ++ Builtin.zeroCells z.cells (grownCap w k 0 E - k)) E)
  have ho : OSl E it.size (.slice (some ⟨w.heap.size, 0, none⟩) 0 (grownCap w k 0 E)) [(w.heap.size, .cells (Builtin.zeroCells z.cells k ++ Builtin.zeroCells z.cells (grownCap w k 0 E - k)) E (0, 0))] [] := by
    refine OSl.own (T := E) (sz := it.size) w.heap.size (grownCap w k 0 E) [] _ (fun r hr => by cases hr) (Nat.zero_le _) hcm ?_ (by simp [rowsCells])
    simp only [Array.size_append, size_zeroCells, hzs]
    rw [← Nat.add_mul]; congr 1; omega
  unfold Oper.does
  have : (execOp a.eval ⟨some d, .call ⟨.builtin .append, #[x, y], #[t, tn]⟩, ty, pos, af, gd⟩).run P w = .ok (.value (.slice (some ⟨w.heap.size, 0, none⟩) k (grownCap w k 0 E))) (w.drew.alloc (.cells (Builtin.zeroCells z.cells k ++ Builtin.zeroCells z.cells (grownCap w k 0 E - k)) E)) := by
    simp only [execOp, resolve]
    simp only [invoke, builtin]
    have e1 : #[x, y].map a.eval = #[.slice none 0 0, .int .i64 (k : Int)] := by simp [ha.ev hx, ha.ev hy]
    rw [e1]
    rw [Sem.run_bind]
    show (Result.ok _ w).andThen _ = _
    rw [Result.andThen_ok]
    exact run_v hr
  rw [this]
  exact ⟨⟨M, _⟩, _, h2, ha.put hd _, hk _ _ _ hge ho⟩

/-! Cuts: what is known behind a piece of code, told once for all ways through it. -/
theorem C_cutX {α : Type} {c rest : Code} (pre : α → Env) (F : α → Prop) {e0 : Env} (hp : Pick e e0)
    (h1 : C P n c (Exit.then (fun a w => ∃ x, F x ∧ Sat n (pre x ++ e0) a ∧ S w) Q) S e) (h2 : ∀ x, F x → C P n rest Q S (pre x ++ e0)) :
    C P n c (Exit.then (rest.wpIn (Fr n.ro) 0 P Q) Q) S e := by
  intro a w ha hw
  refine wpIn_mono (h1 a w ha hw) fun x a' w' hx => ?_
  cases x with
  | normal =>
    obtain ⟨x, hF, hs, hw2⟩ := hx
    exact h2 x hF a' w' hs hw2
  | _ => exact hx
theorem K_cutX {α : Type} {S' : World → Prop} {pre : α → Env} {F : α → Prop} {e0 e1 : Env} (x : α) (hF : F x) (hp : Pick e1 (pre x ++ e0)) (hS : ∀ w, S' w → S w) :
    K n (Exit.then (fun a w => ∃ x, F x ∧ Sat n (pre x ++ e0) a ∧ S w) Q) .normal S' e1 := fun a w ha hw => ⟨x, hF, ha.pick hp, hS w hw⟩
theorem K_is {x : Exit} {v v' : Value} (k : Nat) (hk : get e k = some v) (hv : v = v') (h : K n Q x S ((k, v') :: e)) : K n Q x S e := fun a w ha hw => h a w (ha.more (hv ▸ hk)) hw
theorem K_bool {x : Exit} {b : Bool} (k : Nat) (hk : get e k = some (.bool b)) (ht : b = true → K n Q x S ((k, .bool true) :: e)) (hf : b = false → K n Q x S ((k, .bool false) :: e)) : K n Q x S e := by
  cases b with
  | true => exact K_is k hk rfl (ht rfl)
  | false => exact K_is k hk rfl (hf rfl)
end
end Go.Esp
/-
  Circles.
-/
set_option linter.unusedSimpArgs false
set_option linter.unusedVariables false
set_option linter.unnecessarySimpa false
set_option maxRecDepth 8000
set_option maxHeartbeats 1000000
namespace Go.Proofs.Ytbafnjniijodfaa
open Go.Esp
theorem F.elem22 : slOf Try.prog 22 = some (54, 21, 32) := by kernel_rfl
theorem F.elem52 : slOf Try.prog 52 = some (3, 1, 8) := by kernel_rfl
theorem F.foff54_0 : foff Try.prog 54 0 = some 0 := by kernel_rfl
theorem F.foff54_1 : foff Try.prog 54 1 = some 1 := by kernel_rfl
theorem F.lay22 : lay Try.prog 22 = some (false, 1) := by kernel_rfl
theorem F.lay3 : lay Try.prog 3 = some (false, 1) := by kernel_rfl
theorem F.lay33 : lay Try.prog 33 = some (true, 20) := by kernel_rfl
theorem F.lay54 : lay Try.prog 54 = some (true, 21) := by kernel_rfl
theorem F.ok37 : okFn Try.prog 37 = true := by kernel_rfl
theorem F.ok46 : okFn Try.prog 46 = true := by kernel_rfl
theorem F.ok47 : okFn Try.prog 47 = true := by kernel_rfl
theorem F.ok48 : okFn Try.prog 48 = true := by kernel_rfl
theorem F.ok49 : okFn Try.prog 49 = true := by kernel_rfl
theorem F.ok57 : okFn Try.prog 57 = true := by kernel_rfl
theorem F.ok59 : okFn Try.prog 59 = true := by kernel_rfl
theorem F.ok67 : okFn Try.prog 67 = true := by kernel_rfl
theorem F.ok68 : okFn Try.prog 68 = true := by kernel_rfl
theorem F.ok75 : okFn Try.prog 75 = true := by kernel_rfl
theorem F.zero3 : zeroOf Try.prog 3 = some ((.int .i64 0)) := by kernel_rfl
theorem F.zero54 : zeroOf Try.prog 54 = some (aggV [.one (.int .i64 0), idSeg 0]) := by rw [idSeg0]; kernel_rfl

theorem IndexI_rd (M : Mem) (Hin : Hp) (l : Sl Int) (x : Int) (hl : RdS M Hin l.a (l.l.map (oneI .i64)) 1) (bl : l.l.length ≤ 9223372036854775807) : Fo Try.prog 59 [l.val, .int .i64 x] M Hin (fun M' v => M' = M ∧ v = .int .i64 (idxI x l.l)) := by
  have nl : (l.l.map (oneI .i64)).length = l.l.length := List.length_map ..
  refine fo_enter Try.func59 rfl Try.ntmps59 rfl ?_; intro H
  have hrd := hl.app H
  refine C_seq ?_
  refine C_region (l := [0]) rfl ?_
  refine Y_assign ?_
  refine XD_end ?_
  refine K_then ?_
  iterate 2 refine C_seq ?_
  refine C_region (l := [0, 1, 2]) rfl ?_
  refine Y_move ?_
  refine Y_len_sl F.elem52 ?_
  refine Y_move ?_
  refine XD_end ?_
  refine K_then ?_
  refine Y_pk [8, 7, 4, 0, 1] ?_
  refine C_block ?_
  refine Y_pk [8, 7, 4, 0, 1] ?_
  refine C_loopS (.succ .zero) (fun (k : Nat) z => z = [(8, .int .i64 (k : Int))] ∧ k ≤ l.l.length ∧ (x ∉ l.l.take k)) (fun k => l.l.length - k) (0) (⟨rfl, by omega, by simp⟩) ?_
  rintro k _ ⟨rfl, hk, hI⟩
  refine C_seq ?_
  refine C_region (l := [0]) rfl ?_
  refine Y_cmp ?_
  refine XD_end ?_
  refine K_then ?_
  refine C_seq ?_
  refine C_cond rfl (fun hc1 => ?_) (fun hc1 => ?_)
  ·replace hc1 := dT hc1
   refine C_skip ?_
   refine K_then ?_
   refine C_seq ?_
   refine C_block ?_
   refine C_seq ?_
   refine C_region (l := [0, 1]) rfl ?_
   refine Y_move ?_
   refine Y_assign ?_
   refine XD_end ?_
   refine K_then ?_
   refine C_seq ?_
   refine C_region (l := [0, 1, 2, 3, 4, 5]) rfl ?_
   iterate 3 refine Y_move ?_
   refine X_indexAddr rfl rfl rfl rfl F.elem52 (by rfl) (by omega) (by exact RdS.plain (by assumption) (by (simp; omega))) rfl ?_
   refine X_load_rd rfl rfl rfl (by assumption) (by exact row_map (by omega)) F.lay3 rfl rfl rfl ?_
   refine Y_cmp ?_
   refine XD_end ?_
   refine K_then ?_
   refine C_cond rfl (fun hc2 => ?_) (fun hc2 => ?_)
   ·replace hc2 := dT hc2
    refine C_seq ?_
    refine C_region (l := [0, 1]) rfl ?_
    refine Y_move ?_
    refine Y_assign ?_
    refine XD_end ?_
    refine K_then ?_
    refine C_ret ?_
    refine K_retB ?_
    iterate 2 refine K_ret ?_
    refine K_retB ?_
    refine K_ret ?_
    refine K_end (.inr rfl) (.tmp rfl .nil) (fun w hw => ?_)
    refine ⟨_, M, rfl, Mem.le.refl M, hw.c, rfl, ?_⟩
    refine congrArg (Value.int .i64) ?_
    exact (idxI_at (by omega) hI (by assumption)).symm
   ·replace hc2 := dF hc2
    refine C_skip ?_
    refine K_out ?_
    refine K_then ?_
    refine C_region (l := [0, 1]) rfl ?_
    refine X_ari rfl rfl rfl rfl rfl (by exact wrap_in (by decide) (by omega)) rfl ?_
    refine Y_move ?_
    refine XD_end ?_
    refine K_roundS (a' := [(8, _)]) (k + 1) (.cons (k := 8) rfl (.cons (k := 7) rfl (.cons (k := 4) rfl (.cons (k := 0) rfl (.cons (k := 1) rfl (.nil)))))) (fun w hw => by first | exact hw | exact hw.c) ?_ ?_
    ·refine ⟨rfl, by omega, ?_⟩
     exact not_take_succ (by omega) hI (by assumption)
    ·omega
  ·replace hc1 := dF hc1
   refine C_exit ?_
   iterate 2 refine K_exit ?_
   refine K_hit ?_
   refine K_then ?_
   refine Y_pk [4] ?_
   refine C_seq ?_
   refine C_region (l := [0]) rfl ?_
   refine Y_assign ?_
   refine XD_end ?_
   refine K_then ?_
   refine C_ret ?_
   refine K_end (.inr rfl) (.tmp rfl .nil) (fun w hw => ?_)
   refine ⟨_, M, rfl, Mem.le.refl M, hw.c, rfl, ?_⟩
   refine congrArg (Value.int .i64) ?_
   (have hk9 : k = l.l.length := (by omega); subst hk9; rw [List.take_length] at hI; exact (idxI_none hI).symm)

theorem ContainsI_rd (M : Mem) (Hin : Hp) (l : Sl Int) (x : Int) (hl : RdS M Hin l.a (l.l.map (oneI .i64)) 1) (bl : l.l.length ≤ 9223372036854775807) : Fo Try.prog 37 [l.val, .int .i64 x] M Hin (fun M' v => M' = M ∧ v = .bool (decide (x ∈ l.l))) := by
  refine fo_enter Try.func37 rfl Try.ntmps37 rfl ?_; intro H
  refine C_seq ?_
  refine C_region (l := [0]) rfl ?_
  refine Y_assign ?_
  refine XD_end ?_
  refine K_then ?_
  refine C_seq ?_
  refine C_region (l := [0, 1, 2, 3, 4]) rfl ?_
  iterate 2 refine Y_move ?_
  refine X_fo rfl rfl F.ok59 rfl (IndexI_rd _ Hin ⟨_, _, _⟩ _ hl bl) (by repeat first | exact Rem.here _ | exact Rem.two | apply Rem.skip | apply Rem.over) (putE_some rfl) ?_
  rintro _ M1 _ ⟨hM1, rfl⟩; subst M1
  refine Y_cmp ?_
  refine Y_assign ?_
  refine XD_end ?_
  refine K_then ?_
  refine Y_pk [4] ?_
  refine C_ret ?_
  refine K_end (.inr rfl) (.tmp rfl .nil) (fun w hw => ?_)
  exact ⟨_, M, rfl, Mem.le.refl M, hw.c, rfl, congrArg Value.bool (by simp [idxI_nn])⟩

theorem IndexI_ok (M : Mem) (l : Sl Int) (x : Int) (hl : SlM M l.a (l.l.map (oneI .i64)) 1) (bl : l.l.length ≤ maxLen) : Fs Try.prog 59 [l.val, .int .i64 x] M (fun v => v = .int .i64 (idxI x l.l)) :=
  fs_of_fo (IndexI_rd M [] l x (hl.rd []) bl)

theorem ContainsI_ok (M : Mem) (l : Sl Int) (x : Int) (hl : SlM M l.a (l.l.map (oneI .i64)) 1) (bl : l.l.length ≤ maxLen) : Fs Try.prog 37 [l.val, .int .i64 x] M (fun v => v = .bool (decide (x ∈ l.l))) :=
  fs_of_fo (ContainsI_rd M [] l x (hl.rd []) bl)

theorem Circ_ok (M : Mem) (l : (Sl PeerV)) (hl0 : SlK M PeerV.segs 21 l) : Fs Try.prog 48 [Sl.val l] M (fun v => v = Value.bool (decide (IsCircle l.l))) := by
  obtain ⟨l_a, l_c, l_l⟩ := l
  have k_l : SlK M PeerV.segs 21 ⟨l_a, l_c, l_l⟩ := hl0
  have s_l : SlM M l_a (l_l.map PeerV.segs) 21 := k_l.h1
  have n_l : (l_l.map PeerV.segs).length = l_l.length := List.length_map ..
  have m_l : l_l.length ≤ 9223372036854775807 := k_l.h2
  have c_l : l_l.length ≤ l_c := k_l.h3
  refine fs_enter Try.func48 rfl Try.ntmps48 rfl ?_; intro H
  refine C_seq ?_
  refine C_region (l := [0]) rfl ?_
  refine Y_assign ?_
  refine XD_end ?_
  refine K_then ?_
  iterate 2 refine C_seq ?_
  refine C_region (l := [0, 1, 2, 3, 4, 5, 6, 7]) rfl ?_
  refine Y_move ?_
  refine Y_len_sl F.elem22 ?_
  refine Y_cmp ?_
  refine Y_move ?_
  refine XD_part 9 rfl (fun hc1 => ?_) (fun hc1 => ?_)
  ·replace hc1 := dT hc1
   iterate 3 refine Y_skip ?_
   refine Y_pick ?_
   refine XD_end ?_
   refine K_then ?_
   refine Y_pk [13, 2, 0] ?_
   refine C_true rfl ?_
   refine C_seq ?_
   refine C_region (l := [0]) rfl ?_
   refine Y_assign ?_
   refine XD_end ?_
   refine K_then ?_
   refine Y_pk [2, 0] ?_
   refine C_ret ?_
   refine K_ret ?_
   refine K_end (.inr rfl) (.tmp rfl .nil) (fun w hw => ?_)
   refine ⟨_, rfl, (hw.c), ?_⟩
   clear hw
   refine congrArg Value.bool ?_
   grind [IsCircle]
  ·replace hc1 := dF hc1
   refine Y_move ?_
   refine Y_len_sl F.elem22 ?_
   refine Y_cmp ?_
   refine Y_pick ?_
   refine XD_end ?_
   refine K_then ?_
   refine Y_pk [13, 2, 0] ?_
   refine C_cond rfl (fun hc2 => ?_) (fun hc2 => ?_)
   ·replace hc2 := dT hc2
    refine C_seq ?_
    refine C_region (l := [0]) rfl ?_
    refine Y_assign ?_
    refine XD_end ?_
    refine K_then ?_
    refine Y_pk [2, 0] ?_
    refine C_ret ?_
    refine K_ret ?_
    refine K_end (.inr rfl) (.tmp rfl .nil) (fun w hw => ?_)
    refine ⟨_, rfl, (hw.c), ?_⟩
    clear hw
    refine congrArg Value.bool ?_
    grind [IsCircle]
   ·replace hc2 := dF hc2
    refine C_skip ?_
    refine K_then ?_
    refine Y_pk [2, 0] ?_
    refine C_seq ?_
    refine C_region (l := [0]) rfl ?_
    refine Y_assign ?_
    refine XD_end ?_
    refine K_then ?_
    iterate 2 refine C_seq ?_
    refine C_region (l := [0, 1, 2]) rfl ?_
    refine Y_move ?_
    refine Y_len_sl F.elem22 ?_
    refine Y_move ?_
    refine XD_end ?_
    refine K_then ?_
    refine C_block ?_
    refine Y_pk [16, 3, 15, 14, 2, 0] ?_
    refine C_loopO (Hin := []) (.succ (.succ .zero)) (by repeat first | exact Rem.here _ | exact Rem.two | apply Rem.skip | apply Rem.over) (fun (k : Nat) M1 h1 z => ∃ v, M1 = M ∧ z = [(16, .int .i64 (k : Int)), (3, v)] ∧ k ≤ l_l.length ∧ CircOk (l_l.take k) ∧ OSl 3 1 v h1 (((l_l.take k).map PeerV.addr).map (oneI .i64))) (fun k => l_l.length - k) (0) (⟨_, rfl, rfl, by omega, by simp [CircOk], OSl.nil⟩) ?_
    rintro k M1 h1 z hm1 ⟨v1, hM1, rfl, hk, hI, ho⟩
    subst hM1
    obtain ⟨ad1, cp1, rfl⟩ := ho.valL
    have hlk : (l_l.take k).length = k := by rw [List.length_take]; omega
    have hlm : (((l_l.take k).map PeerV.addr).map (oneI .i64)).length = k := by simp; omega
    refine C_seq ?_
    refine C_region (l := [0]) rfl ?_
    refine Y_cmp ?_
    refine XD_end ?_
    refine K_then ?_
    refine C_seq ?_
    refine C_cond rfl (fun hc3 => ?_) (fun hc3 => ?_)
    ·replace hc3 := dT hc3
     refine C_skip ?_
     refine K_then ?_
     refine C_seq ?_
     refine C_block ?_
     refine C_seq ?_
     refine C_region (l := [0, 1, 2, 3, 4, 5]) rfl ?_
     refine Y_move ?_
     refine X_indexAddr rfl rfl rfl rfl F.elem22 (by rfl) (by omega) (by exact SlM.plain (by assumption) (by (simp; omega))) rfl ?_
     refine X_load_el rfl rfl rfl (by assumption) (by exact row_map (by omega)) F.lay54 rfl rfl rfl ?_
     refine Y_alloc F.zero54 ?_; intro b4
     refine Y_assign ?_
     refine Y_store F.lay54 ?_
     refine XD_end ?_
     refine K_then ?_
     iterate 2 refine C_seq ?_
     refine C_region_any (l := [0, 1, 2, 3, 4, 5, 6, 7, 8, 9, 10, 11, 12, 13, 14, 15, 16, 17, 18, 19, 20, 21, 22, 23, 24, 25, 26, 27, 28, 29]) #[0, 1, 3, 7, 15, 31, 63, 127, 255, 511, 511, 1535, 4095, 8191, 16383, 32767, 65535, 131071, 262143, 262143, 786431, 2097151, 4194303, 8388607, 262143, 17039359, 67108863, 134217727, 268435455, 536870911] _ rfl (by kernel_rfl) (by kernel_rfl) St.drawn (fun _ h => h) ?_
     refine Y_fieldAddr F.foff54_0 ?_
     refine Y_load F.lay3 ?_
     refine Y_cmp ?_
     refine Y_move ?_
     refine XD_part 24 rfl (fun hc5 => ?_) (fun hc5 => ?_)
     ·replace hc5 := dT hc5
      simp only [List.get_eq_getElem] at hc5
      iterate 3 refine Y_skip ?_
      refine Y_pick ?_
      refine Y_move ?_
      iterate 4 refine Y_skip ?_
      refine Y_pick ?_
      refine Y_move ?_
      iterate 14 refine Y_skip ?_
      refine Y_pick ?_
      refine XD_end ?_
      refine K_then ?_
      refine C_true rfl ?_
      refine C_seq ?_
      refine C_region (l := [0]) rfl ?_
      refine Y_assign ?_
      refine XD_end ?_
      refine K_then ?_
      refine C_ret ?_
      refine K_ret ?_
      refine K_retB ?_
      iterate 2 refine K_ret ?_
      refine K_retB ?_
      refine K_ret ?_
      refine K_end (.inr rfl) (.tmp rfl .nil) (fun w hw => ?_)
      refine ⟨_, rfl, (hw.c), ?_⟩
      clear hw
      refine congrArg Value.bool ?_
      (have hd := circ_take (l := l_l) (k := k) (by omega); have hp := circ_pre (l := l_l); grind [IsCircle])
     ·replace hc5 := dF hc5
      simp only [List.get_eq_getElem] at hc5
      refine Y_fieldAddr F.foff54_0 ?_
      refine Y_load F.lay3 ?_
      refine Y_cmp ?_
      refine Y_pick ?_
      refine Y_move ?_
      refine XD_part 29 rfl (fun hc6 => ?_) (fun hc6 => ?_)
      ·replace hc6 := dT hc6
       simp only [List.get_eq_getElem] at hc6
       iterate 4 refine Y_skip ?_
       refine Y_pick ?_
       refine Y_move ?_
       iterate 14 refine Y_skip ?_
       refine Y_pick ?_
       refine XD_end ?_
       refine K_then ?_
       refine C_true rfl ?_
       refine C_seq ?_
       refine C_region (l := [0]) rfl ?_
       refine Y_assign ?_
       refine XD_end ?_
       refine K_then ?_
       refine C_ret ?_
       refine K_ret ?_
       refine K_retB ?_
       iterate 2 refine K_ret ?_
       refine K_retB ?_
       refine K_ret ?_
       refine K_end (.inr rfl) (.tmp rfl .nil) (fun w hw => ?_)
       refine ⟨_, rfl, (hw.c), ?_⟩
       clear hw
       refine congrArg Value.bool ?_
       (have hd := circ_take (l := l_l) (k := k) (by omega); have hp := circ_pre (l := l_l); grind [IsCircle])
      ·replace hc6 := dF hc6
       simp only [List.get_eq_getElem] at hc6
       refine Y_move ?_
       refine Y_fieldAddr F.foff54_0 ?_
       refine Y_load F.lay3 ?_
       refine X_fo rfl rfl F.ok37 rfl (ContainsI_rd _ h1 ⟨ad1, cp1, (l_l.take k).map PeerV.addr⟩ _ (ho.rd _) (by simp; omega)) (by repeat first | exact Rem.here _ | exact Rem.two | apply Rem.skip | apply Rem.over) (putE_some rfl) ?_
       rintro _ M1 _ ⟨hM1, rfl⟩; subst M1
       refine Y_pick ?_
       refine Y_move ?_
       refine XD_part 35 rfl (fun hc7 => ?_) (fun hc7 => ?_)
       ·replace hc7 := dT hc7
        simp only [AnswerV.eta, MarkV.eta, CellV.eta, HeldV.eta, PeerV.eta] at hc7
        simp only [List.get_eq_getElem] at hc7
        iterate 14 refine Y_skip ?_
        refine Y_pick ?_
        refine XD_end ?_
        refine K_then ?_
        refine C_true rfl ?_
        refine C_seq ?_
        refine C_region (l := [0]) rfl ?_
        refine Y_assign ?_
        refine XD_end ?_
        refine K_then ?_
        refine C_ret ?_
        refine K_ret ?_
        refine K_retB ?_
        iterate 2 refine K_ret ?_
        refine K_retB ?_
        refine K_ret ?_
        refine K_end (.inr rfl) (.tmp rfl .nil) (fun w hw => ?_)
        refine ⟨_, rfl, (hw.c), ?_⟩
        clear hw
        refine congrArg Value.bool ?_
        (have hd := circ_take (l := l_l) (k := k) (by omega); have hp := circ_pre (l := l_l); grind [IsCircle])
       ·replace hc7 := dF hc7
        simp only [AnswerV.eta, MarkV.eta, CellV.eta, HeldV.eta, PeerV.eta] at hc7
        simp only [List.get_eq_getElem] at hc7
        refine Y_move ?_
        refine Y_cmp ?_
        refine Y_move ?_
        refine XD_part 38 rfl (fun hc8 => ?_) (fun hc8 => ?_)
        ·replace hc8 := dT hc8
         iterate 2 refine Y_move ?_
         refine X_ari rfl rfl rfl rfl rfl (by exact wrap_in (by decide) (by omega)) rfl ?_
         refine X_indexAddr rfl rfl rfl rfl F.elem22 (by exact (Int.toNat_of_nonneg (by omega)).symm) (by omega) (by exact SlM.plain (by assumption) (by (simp; omega))) rfl ?_
         refine X_fieldAddr_el rfl rfl rfl (by exact SlM.plain (by assumption) (by (simp; omega))) F.foff54_1 rfl ?_
         refine X_load_el rfl rfl rfl (by assumption) (by exact row_map (by omega)) F.lay33 rfl rfl rfl ?_
         refine Y_fieldAddr F.foff54_1 ?_
         refine Y_load F.lay33 ?_
         refine X_fs rfl rfl F.ok46 rfl (Less_ok _ _ _) rfl ?_
         rintro _ rfl
         refine Y_not ?_
         iterate 2 refine Y_pick ?_
         refine XD_end ?_
         refine K_then ?_
         refine C_cond rfl (fun hc9 => ?_) (fun hc9 => ?_)
         ·replace hc9 := nT hc9
          simp only [List.get_eq_getElem] at hc9
          refine C_seq ?_
          refine C_region (l := [0]) rfl ?_
          refine Y_assign ?_
          refine XD_end ?_
          refine K_then ?_
          refine C_ret ?_
          refine K_ret ?_
          refine K_retB ?_
          iterate 2 refine K_ret ?_
          refine K_retB ?_
          refine K_ret ?_
          refine K_end (.inr rfl) (.tmp rfl .nil) (fun w hw => ?_)
          refine ⟨_, rfl, (hw.c), ?_⟩
          clear hw
          refine congrArg Value.bool ?_
          (have hd := circ_take (l := l_l) (k := k) (by omega); have hp := circ_pre (l := l_l); grind [IsCircle])
         ·replace hc9 := nF hc9
          simp only [List.get_eq_getElem] at hc9
          refine C_skip ?_
          refine K_then ?_
          refine C_region (l := [0, 1, 2, 3, 4, 5]) rfl ?_
          refine Y_move ?_
          refine Y_fieldAddr F.foff54_0 ?_
          refine Y_load F.lay3 ?_
          refine X_buildSliceF rfl rfl F.elem52 F.zero3 rfl rfl (.cons rfl (by constructor) .nil) rfl rfl (by simp only [List.map_cons, List.map_nil] <;> rfl) rfl ?_; intro b10 hob11
          refine X_append (m := 1000000) rfl rfl rfl rfl rfl F.elem52 F.zero3 (by rfl) rfl (by assumption) (by repeat first | exact Rem.here _ | exact Rem.two | apply Rem.skip | apply Rem.over) (Src.own hob11.lens (by (refine rows_one1 ?_; (repeat (first | exact flat_nil | refine flat_id ?_ | (refine flat_one ?_ ?_; rfl))); done)) rfl (by repeat first | exact List.Mem.head _ | refine List.Mem.tail _ ?_ | refine List.mem_append_right _ ?_)) (by (simp; omega)) (by decide) rfl ?_; intro v14 hs13 ho12; obtain ⟨adv14, cpv14, rfl⟩ := ho12.val
          refine Y_assign ?_
          refine XD_end ?_
          refine K_out ?_
          refine K_then ?_
          refine C_region (l := [0, 1]) rfl ?_
          refine X_ari rfl rfl rfl rfl rfl (by exact wrap_in (by decide) (by omega)) rfl ?_
          refine Y_move ?_
          refine XD_end ?_
          refine K_roundO (a' := [(16, _), (3, _)]) (k + 1) (hs13) (.cons (k := 16) rfl (.cons (k := 3) rfl (.cons (k := 15) rfl (.cons (k := 14) rfl (.cons (k := 2) rfl (.cons (k := 0) rfl (.nil))))))) (by exact Mem.le.refl _) (fun w hw => by first | exact hw | exact hw.c) ?_ ?_
          ·refine ⟨_, rfl, rfl, by omega, ?_, ?_⟩
           ·have hd := circ_take (l := l_l) (k := k) (by omega); grind
           ·have e9 : (((l_l.take (k + 1)).map PeerV.addr).map (oneI .i64)) = (((l_l.take k).map PeerV.addr).map (oneI .i64)) ++ [oneI .i64 l_l[k].addr] := by rw [take_map_succ _ (by omega), List.map_append]; rfl
            rw [e9]; assumption
          ·omega
        ·replace hc8 := dF hc8
         iterate 10 refine Y_skip ?_
         iterate 2 refine Y_pick ?_
         refine XD_end ?_
         refine K_then ?_
         refine C_false rfl ?_
         refine C_skip ?_
         refine K_then ?_
         refine C_region (l := [0, 1, 2, 3, 4, 5]) rfl ?_
         refine Y_move ?_
         refine Y_fieldAddr F.foff54_0 ?_
         refine Y_load F.lay3 ?_
         refine X_buildSliceF rfl rfl F.elem52 F.zero3 rfl rfl (.cons rfl (by constructor) .nil) rfl rfl (by simp only [List.map_cons, List.map_nil] <;> rfl) rfl ?_; intro b15 hob16
         refine X_append (m := 1000000) rfl rfl rfl rfl rfl F.elem52 F.zero3 (by rfl) rfl (by assumption) (by repeat first | exact Rem.here _ | exact Rem.two | apply Rem.skip | apply Rem.over) (Src.own hob16.lens (by (refine rows_one1 ?_; (repeat (first | exact flat_nil | refine flat_id ?_ | (refine flat_one ?_ ?_; rfl))); done)) rfl (by repeat first | exact List.Mem.head _ | refine List.Mem.tail _ ?_ | refine List.mem_append_right _ ?_)) (by (simp; omega)) (by decide) rfl ?_; intro v19 hs18 ho17; obtain ⟨adv19, cpv19, rfl⟩ := ho17.val
         refine Y_assign ?_
         refine XD_end ?_
         refine K_out ?_
         refine K_then ?_
         refine C_region (l := [0, 1]) rfl ?_
         refine X_ari rfl rfl rfl rfl rfl (by exact wrap_in (by decide) (by omega)) rfl ?_
         refine Y_move ?_
         refine XD_end ?_
         refine K_roundO (a' := [(16, _), (3, _)]) (k + 1) (hs18) (.cons (k := 16) rfl (.cons (k := 3) rfl (.cons (k := 15) rfl (.cons (k := 14) rfl (.cons (k := 2) rfl (.cons (k := 0) rfl (.nil))))))) (by exact Mem.le.refl _) (fun w hw => by first | exact hw | exact hw.c) ?_ ?_
         ·refine ⟨_, rfl, rfl, by omega, ?_, ?_⟩
          ·have hd := circ_take (l := l_l) (k := k) (by omega); grind
          ·have e9 : (((l_l.take (k + 1)).map PeerV.addr).map (oneI .i64)) = (((l_l.take k).map PeerV.addr).map (oneI .i64)) ++ [oneI .i64 l_l[k].addr] := by rw [take_map_succ _ (by omega), List.map_append]; rfl
           rw [e9]; assumption
         ·omega
    ·replace hc3 := dF hc3
     refine C_exit ?_
     iterate 2 refine K_exit ?_
     refine K_hit ?_
     refine K_then ?_
     refine Y_pk [2] ?_
     refine C_seq ?_
     refine C_region (l := [0]) rfl ?_
     refine Y_assign ?_
     refine XD_end ?_
     refine K_then ?_
     refine C_ret ?_
     refine K_end (.inr rfl) (.tmp rfl .nil) (fun w hw => ?_)
     refine ⟨_, rfl, (hw.c), ?_⟩
     clear hw
     refine congrArg Value.bool ?_
     (have hk9 : k = l_l.length := (by omega); subst hk9; grind [IsCircle, List.take_length])

theorem rCirc_ok (M : Mem) (l : (Sl PeerV)) (hl0 : SlK M PeerV.segs 21 l) : Fs Try.prog 57 [Sl.val l] M (fun v => v = Value.bool (decide (IsCircle l.l))) := by
  obtain ⟨l_a, l_c, l_l⟩ := l
  have k_l : SlK M PeerV.segs 21 ⟨l_a, l_c, l_l⟩ := hl0
  have s_l : SlM M l_a (l_l.map PeerV.segs) 21 := k_l.h1
  have n_l : (l_l.map PeerV.segs).length = l_l.length := List.length_map ..
  have m_l : l_l.length ≤ 9223372036854775807 := k_l.h2
  have c_l : l_l.length ≤ l_c := k_l.h3
  refine fs_enter Try.func57 rfl Try.ntmps57 rfl ?_; intro H
  refine C_seq ?_
  refine C_region (l := [0]) rfl ?_
  refine Y_assign ?_
  refine XD_end ?_
  refine K_then ?_
  iterate 2 refine C_seq ?_
  refine C_region (l := [0, 1, 2, 3, 4, 5, 6, 7]) rfl ?_
  refine Y_move ?_
  refine Y_len_sl F.elem22 ?_
  refine Y_cmp ?_
  refine Y_move ?_
  refine XD_part 8 rfl (fun hc1 => ?_) (fun hc1 => ?_)
  ·replace hc1 := dT hc1
   iterate 3 refine Y_skip ?_
   refine Y_pick ?_
   refine XD_end ?_
   refine K_then ?_
   refine Y_pk [12, 2, 0] ?_
   refine C_true rfl ?_
   refine C_seq ?_
   refine C_region (l := [0]) rfl ?_
   refine Y_assign ?_
   refine XD_end ?_
   refine K_then ?_
   refine Y_pk [2, 0] ?_
   refine C_ret ?_
   refine K_ret ?_
   refine K_end (.inr rfl) (.tmp rfl .nil) (fun w hw => ?_)
   refine ⟨_, rfl, (hw.c), ?_⟩
   clear hw
   refine congrArg Value.bool ?_
   grind [IsCircle]
  ·replace hc1 := dF hc1
   refine Y_move ?_
   refine Y_len_sl F.elem22 ?_
   refine Y_cmp ?_
   refine Y_pick ?_
   refine XD_end ?_
   refine K_then ?_
   refine Y_pk [12, 2, 0] ?_
   refine C_cond rfl (fun hc2 => ?_) (fun hc2 => ?_)
   ·replace hc2 := dT hc2
    refine C_seq ?_
    refine C_region (l := [0]) rfl ?_
    refine Y_assign ?_
    refine XD_end ?_
    refine K_then ?_
    refine Y_pk [2, 0] ?_
    refine C_ret ?_
    refine K_ret ?_
    refine K_end (.inr rfl) (.tmp rfl .nil) (fun w hw => ?_)
    refine ⟨_, rfl, (hw.c), ?_⟩
    clear hw
    refine congrArg Value.bool ?_
    grind [IsCircle]
   ·replace hc2 := dF hc2
    refine C_skip ?_
    refine K_then ?_
    refine Y_pk [2, 0] ?_
    iterate 2 refine C_seq ?_
    refine C_region (l := [0]) rfl ?_
    refine Y_assign ?_
    refine XD_end ?_
    refine K_then ?_
    refine C_block ?_
    refine Y_pk [3, 2, 0] ?_
    refine C_loopS (.succ .zero) (fun (k : Nat) z => z = [(3, .int .i64 (k : Int))] ∧ k ≤ l_l.length ∧ ((1 ≤ l_l.length ∧ l_l.length ≤ 16) ∧ CircOk (l_l.take k))) (fun k => l_l.length - k) (0) (⟨rfl, by omega, by (refine ⟨by omega, ?_⟩; simp [CircOk])⟩) ?_
    rintro k _ ⟨rfl, hk, hI⟩
    have hlk : (l_l.take k).length = k := by rw [List.length_take]; omega
    iterate 2 refine C_seq ?_
    refine C_region (l := [0, 1, 2, 3]) rfl ?_
    iterate 2 refine Y_move ?_
    refine Y_len_sl F.elem22 ?_
    refine Y_cmp ?_
    refine XD_end ?_
    refine K_then ?_
    refine C_cond rfl (fun hc3 => ?_) (fun hc3 => ?_)
    ·replace hc3 := dT hc3
     refine C_skip ?_
     refine K_then ?_
     refine C_seq ?_
     refine C_block ?_
     iterate 2 refine C_seq ?_
     refine C_region_any (l := [0, 1, 2, 3, 4, 5, 6, 7, 8, 9, 10, 11, 12, 13, 14, 15, 16, 17, 18, 19, 20, 21, 22, 23, 24, 25, 26, 27, 28, 29, 30, 31, 32]) #[0, 0, 3, 7, 15, 31, 63, 127, 127, 511, 1023, 2047, 4095, 8191, 16383, 32767, 65535, 131071, 262143, 262143, 786431, 2097151, 4194303, 8388607, 262143, 262143, 50593791, 117702655, 251920383, 536870911, 1073741823, 2147483647, 4294967295] _ rfl (by kernel_rfl) (by kernel_rfl) St.drawn (fun _ h => h) ?_
     iterate 2 refine Y_move ?_
     refine X_indexAddr rfl rfl rfl rfl F.elem22 (by rfl) (by omega) (by exact SlM.plain (by assumption) (by (simp; omega))) rfl ?_
     refine X_fieldAddr_el rfl rfl rfl (by exact SlM.plain (by assumption) (by (simp; omega))) F.foff54_0 rfl ?_
     refine X_load_el rfl rfl rfl (by assumption) (by exact row_map (by omega)) F.lay3 rfl rfl rfl ?_
     refine Y_cmp ?_
     refine Y_move ?_
     refine XD_part 25 rfl (fun hc4 => ?_) (fun hc4 => ?_)
     ·replace hc4 := dT hc4
      simp only [List.get_eq_getElem] at hc4
      iterate 6 refine Y_skip ?_
      refine Y_pick ?_
      refine Y_move ?_
      iterate 17 refine Y_skip ?_
      refine Y_pick ?_
      refine XD_end ?_
      refine K_then ?_
      refine C_true rfl ?_
      refine C_seq ?_
      refine C_region (l := [0]) rfl ?_
      refine Y_assign ?_
      refine XD_end ?_
      refine K_then ?_
      refine C_ret ?_
      refine K_ret ?_
      refine K_retB ?_
      iterate 2 refine K_ret ?_
      refine K_retB ?_
      refine K_ret ?_
      refine K_end (.inr rfl) (.tmp rfl .nil) (fun w hw => ?_)
      refine ⟨_, rfl, (hw.c), ?_⟩
      clear hw
      refine congrArg Value.bool ?_
      (have hd := circ_take (l := l_l) (k := k) (by omega); have hp := circ_pre (l := l_l); grind [IsCircle, mem_map_take])
     ·replace hc4 := dF hc4
      simp only [List.get_eq_getElem] at hc4
      iterate 2 refine Y_move ?_
      refine X_indexAddr rfl rfl rfl rfl F.elem22 (by rfl) (by omega) (by exact SlM.plain (by assumption) (by (simp; omega))) rfl ?_
      refine X_fieldAddr_el rfl rfl rfl (by exact SlM.plain (by assumption) (by (simp; omega))) F.foff54_0 rfl ?_
      refine X_load_el rfl rfl rfl (by assumption) (by exact row_map (by omega)) F.lay3 rfl rfl rfl ?_
      refine Y_cmp ?_
      refine Y_pick ?_
      refine Y_move ?_
      refine XD_part 33 rfl (fun hc5 => ?_) (fun hc5 => ?_)
      ·replace hc5 := dT hc5
       simp only [List.get_eq_getElem] at hc5
       iterate 17 refine Y_skip ?_
       refine Y_pick ?_
       refine XD_end ?_
       refine K_then ?_
       refine C_true rfl ?_
       refine C_seq ?_
       refine C_region (l := [0]) rfl ?_
       refine Y_assign ?_
       refine XD_end ?_
       refine K_then ?_
       refine C_ret ?_
       refine K_ret ?_
       refine K_retB ?_
       iterate 2 refine K_ret ?_
       refine K_retB ?_
       refine K_ret ?_
       refine K_end (.inr rfl) (.tmp rfl .nil) (fun w hw => ?_)
       refine ⟨_, rfl, (hw.c), ?_⟩
       clear hw
       refine congrArg Value.bool ?_
       (have hd := circ_take (l := l_l) (k := k) (by omega); have hp := circ_pre (l := l_l); grind [IsCircle, mem_map_take])
      ·replace hc5 := dF hc5
       simp only [List.get_eq_getElem] at hc5
       refine Y_move ?_
       refine Y_cmp ?_
       refine Y_move ?_
       refine XD_part 36 rfl (fun hc6 => ?_) (fun hc6 => ?_)
       ·replace hc6 := dT hc6
        iterate 2 refine Y_move ?_
        refine X_ari rfl rfl rfl rfl rfl (by exact wrap_in (by decide) (by omega)) rfl ?_
        refine X_indexAddr rfl rfl rfl rfl F.elem22 (by exact (Int.toNat_of_nonneg (by omega)).symm) (by omega) (by exact SlM.plain (by assumption) (by (simp; omega))) rfl ?_
        refine X_fieldAddr_el rfl rfl rfl (by exact SlM.plain (by assumption) (by (simp; omega))) F.foff54_1 rfl ?_
        refine X_load_el rfl rfl rfl (by assumption) (by exact row_map (by omega)) F.lay33 rfl rfl rfl ?_
        iterate 2 refine Y_move ?_
        refine X_indexAddr rfl rfl rfl rfl F.elem22 (by rfl) (by omega) (by exact SlM.plain (by assumption) (by (simp; omega))) rfl ?_
        refine X_fieldAddr_el rfl rfl rfl (by exact SlM.plain (by assumption) (by (simp; omega))) F.foff54_1 rfl ?_
        refine X_load_el rfl rfl rfl (by assumption) (by exact row_map (by omega)) F.lay33 rfl rfl rfl ?_
        refine X_fs rfl rfl F.ok47 rfl (rLess_ok _ _ _) rfl ?_
        rintro _ rfl
        refine Y_not ?_
        iterate 2 refine Y_pick ?_
        refine XD_end ?_
        refine K_then ?_
        refine C_cond rfl (fun hc7 => ?_) (fun hc7 => ?_)
        ·replace hc7 := nT hc7
         simp only [List.get_eq_getElem] at hc7
         refine C_seq ?_
         refine C_region (l := [0]) rfl ?_
         refine Y_assign ?_
         refine XD_end ?_
         refine K_then ?_
         refine C_ret ?_
         refine K_ret ?_
         refine K_retB ?_
         iterate 2 refine K_ret ?_
         refine K_retB ?_
         refine K_ret ?_
         refine K_end (.inr rfl) (.tmp rfl .nil) (fun w hw => ?_)
         refine ⟨_, rfl, (hw.c), ?_⟩
         clear hw
         refine congrArg Value.bool ?_
         (have hd := circ_take (l := l_l) (k := k) (by omega); have hp := circ_pre (l := l_l); grind [IsCircle, mem_map_take])
        ·replace hc7 := nF hc7
         simp only [List.get_eq_getElem] at hc7
         refine C_skip ?_
         refine K_then ?_
         refine C_seq ?_
         refine C_region (l := [0]) rfl ?_
         refine Y_assign ?_
         refine XD_end ?_
         refine K_then ?_
         refine C_block ?_
         refine Y_pk [4, 51, 50, 49, 48, 47, 46, 45, 44, 43, 42, 41, 40, 39, 38, 37, 36, 35, 34, 33, 32, 31, 30, 29, 28, 27, 26, 25, 24, 23, 22, 21, 20, 19, 16, 15, 14, 13, 3, 2, 0] ?_
         refine C_loopS (.succ .zero) (fun (j : Nat) z => z = [(4, .int .i64 (j : Int))] ∧ j ≤ k ∧ l_l[k].addr ∉ (l_l.take j).map PeerV.addr) (fun j => k - j) (0) (⟨rfl, by omega, by simp⟩) ?_
         rintro j _ ⟨rfl, hj, hJ⟩
         iterate 2 refine C_seq ?_
         refine C_region (l := [0, 1, 2]) rfl ?_
         iterate 2 refine Y_move ?_
         refine Y_cmp ?_
         refine XD_end ?_
         refine K_then ?_
         refine C_cond rfl (fun hc8 => ?_) (fun hc8 => ?_)
         ·replace hc8 := dT hc8
          refine C_skip ?_
          refine K_then ?_
          refine C_seq ?_
          refine C_block ?_
          refine C_seq ?_
          refine C_region_any (l := [0, 1, 2, 3, 4, 5, 6, 7, 8, 9, 10]) #[0, 0, 3, 7, 15, 0, 0, 96, 224, 480, 1023] _ rfl (by kernel_rfl) (by kernel_rfl) St.drawn (fun _ h => h) ?_
          iterate 2 refine Y_move ?_
          refine X_indexAddr rfl rfl rfl rfl F.elem22 (by rfl) (by omega) (by exact SlM.plain (by assumption) (by (simp; omega))) rfl ?_
          refine X_fieldAddr_el rfl rfl rfl (by exact SlM.plain (by assumption) (by (simp; omega))) F.foff54_0 rfl ?_
          refine X_load_el rfl rfl rfl (by assumption) (by exact row_map (by omega)) F.lay3 rfl rfl rfl ?_
          iterate 2 refine Y_move ?_
          refine X_indexAddr rfl rfl rfl rfl F.elem22 (by rfl) (by omega) (by exact SlM.plain (by assumption) (by (simp; omega))) rfl ?_
          refine X_fieldAddr_el rfl rfl rfl (by exact SlM.plain (by assumption) (by (simp; omega))) F.foff54_0 rfl ?_
          refine X_load_el rfl rfl rfl (by assumption) (by exact row_map (by omega)) F.lay3 rfl rfl rfl ?_
          refine Y_cmp ?_
          refine XD_end ?_
          refine K_then ?_
          refine C_cond rfl (fun hc9 => ?_) (fun hc9 => ?_)
          ·replace hc9 := dT hc9
           simp only [List.get_eq_getElem] at hc9
           refine C_seq ?_
           refine C_region (l := [0]) rfl ?_
           refine Y_assign ?_
           refine XD_end ?_
           refine K_then ?_
           refine C_ret ?_
           refine K_retB ?_
           iterate 2 refine K_ret ?_
           iterate 2 refine K_retB ?_
           iterate 2 refine K_ret ?_
           refine K_retB ?_
           refine K_ret ?_
           refine K_end (.inr rfl) (.tmp rfl .nil) (fun w hw => ?_)
           refine ⟨_, rfl, (hw.c), ?_⟩
           clear hw
           refine congrArg Value.bool ?_
           (have hd := circ_take (l := l_l) (k := k) (by omega); have hp := circ_pre (l := l_l); grind [IsCircle, mem_map_take])
          ·replace hc9 := dF hc9
           simp only [List.get_eq_getElem] at hc9
           refine C_skip ?_
           refine K_out ?_
           refine K_then ?_
           refine C_region (l := [0, 1, 2]) rfl ?_
           refine Y_move ?_
           refine X_ari rfl rfl rfl rfl rfl (by exact wrap_in (by decide) (by omega)) rfl ?_
           refine Y_assign ?_
           refine XD_end ?_
           refine K_roundS (a' := [(4, _)]) (j + 1) (.cons (k := 4) rfl (.cons (k := 51) rfl (.cons (k := 50) rfl (.cons (k := 49) rfl (.cons (k := 48) rfl (.cons (k := 47) rfl (.cons (k := 46) rfl (.cons (k := 45) rfl (.cons (k := 44) rfl (.cons (k := 43) rfl (.cons (k := 42) rfl (.cons (k := 41) rfl (.cons (k := 40) rfl (.cons (k := 39) rfl (.cons (k := 38) rfl (.cons (k := 37) rfl (.cons (k := 36) rfl (.cons (k := 35) rfl (.cons (k := 34) rfl (.cons (k := 33) rfl (.cons (k := 32) rfl (.cons (k := 31) rfl (.cons (k := 30) rfl (.cons (k := 29) rfl (.cons (k := 28) rfl (.cons (k := 27) rfl (.cons (k := 26) rfl (.cons (k := 25) rfl (.cons (k := 24) rfl (.cons (k := 23) rfl (.cons (k := 22) rfl (.cons (k := 21) rfl (.cons (k := 20) rfl (.cons (k := 19) rfl (.cons (k := 16) rfl (.cons (k := 15) rfl (.cons (k := 14) rfl (.cons (k := 13) rfl (.cons (k := 3) rfl (.cons (k := 2) rfl (.cons (k := 0) rfl (.nil)))))))))))))))))))))))))))))))))))))))))) (fun w hw => by first | exact hw | exact hw.c) ?_ ?_
           ·refine ⟨rfl, by omega, ?_⟩
            exact not_mem_step (by omega) hJ (by assumption)
           ·omega
         ·replace hc8 := dF hc8
          refine C_exit ?_
          iterate 2 refine K_exit ?_
          refine K_hit ?_
          refine K_out ?_
          refine K_then ?_
          refine C_region (l := [0, 1, 2]) rfl ?_
          refine Y_move ?_
          refine X_ari rfl rfl rfl rfl rfl (by exact wrap_in (by decide) (by omega)) rfl ?_
          refine Y_assign ?_
          refine XD_end ?_
          refine K_roundS (a' := [(3, _)]) (k + 1) (.cons (k := 3) rfl (.cons (k := 2) rfl (.cons (k := 0) rfl (.nil)))) (fun w hw => by first | exact hw | exact hw.c) ?_ ?_
          ·refine ⟨rfl, by omega, ?_⟩
           have hd := circ_take (l := l_l) (k := k) (by omega); have hj9 : j = k := (by omega); subst hj9; grind
          ·omega
       ·replace hc6 := dF hc6
        iterate 13 refine Y_skip ?_
        iterate 2 refine Y_pick ?_
        refine XD_end ?_
        refine K_then ?_
        refine C_false rfl ?_
        refine C_skip ?_
        refine K_then ?_
        refine C_seq ?_
        refine C_region (l := [0]) rfl ?_
        refine Y_assign ?_
        refine XD_end ?_
        refine K_then ?_
        refine C_block ?_
        refine Y_pk [4, 51, 50, 49, 48, 47, 46, 45, 44, 43, 42, 41, 40, 39, 38, 37, 36, 35, 34, 33, 32, 31, 30, 29, 28, 27, 26, 25, 24, 23, 22, 21, 20, 19, 16, 15, 14, 13, 3, 2, 0] ?_
        refine C_loopS (.succ .zero) (fun (j : Nat) z => z = [(4, .int .i64 (j : Int))] ∧ j ≤ k ∧ l_l[k].addr ∉ (l_l.take j).map PeerV.addr) (fun j => k - j) (0) (⟨rfl, by omega, by simp⟩) ?_
        rintro j _ ⟨rfl, hj, hJ⟩
        iterate 2 refine C_seq ?_
        refine C_region (l := [0, 1, 2]) rfl ?_
        iterate 2 refine Y_move ?_
        refine Y_cmp ?_
        refine XD_end ?_
        refine K_then ?_
        refine C_cond rfl (fun hc10 => ?_) (fun hc10 => ?_)
        ·replace hc10 := dT hc10
         (exfalso; omega)
        ·replace hc10 := dF hc10
         refine C_exit ?_
         iterate 2 refine K_exit ?_
         refine K_hit ?_
         refine K_out ?_
         refine K_then ?_
         refine C_region (l := [0, 1, 2]) rfl ?_
         refine Y_move ?_
         refine X_ari rfl rfl rfl rfl rfl (by exact wrap_in (by decide) (by omega)) rfl ?_
         refine Y_assign ?_
         refine XD_end ?_
         refine K_roundS (a' := [(3, _)]) (k + 1) (.cons (k := 3) rfl (.cons (k := 2) rfl (.cons (k := 0) rfl (.nil)))) (fun w hw => by first | exact hw | exact hw.c) ?_ ?_
         ·refine ⟨rfl, by omega, ?_⟩
          have hd := circ_take (l := l_l) (k := k) (by omega); have hj9 : j = k := (by omega); subst hj9; grind
         ·omega
    ·replace hc3 := dF hc3
     refine C_exit ?_
     iterate 2 refine K_exit ?_
     refine K_hit ?_
     refine K_then ?_
     refine Y_pk [2] ?_
     refine C_seq ?_
     refine C_region (l := [0]) rfl ?_
     refine Y_assign ?_
     refine XD_end ?_
     refine K_then ?_
     refine C_ret ?_
     refine K_end (.inr rfl) (.tmp rfl .nil) (fun w hw => ?_)
     refine ⟨_, rfl, (hw.c), ?_⟩
     clear hw
     refine congrArg Value.bool ?_
     (have hk9 : k = l_l.length := (by omega); subst hk9; grind [IsCircle, List.take_length])

theorem Search_ok (M : Mem) (Hin : Hp) (g : FuncId) (caps : List Value) (p : Nat → Bool) (n : Nat) (hn : n ≤ 1000000000) (hok : okFn Try.prog g = true) (hc : ∀ i, i < n → Fo Try.prog g ([.int .i64 (i : Int)] ++ caps) M Hin (fun M' v => M' = M ∧ v = .bool (p i))) (hmono : ∀ i j, i ≤ j → j < n → p i = true → p j = true) : Fo Try.prog 67 [.int .i64 (n : Int), .func (.func g) #[] caps.toArray] M Hin (fun M' v => M' = M ∧ v = .int .i64 (firstP p n : Nat)) := by
  refine fo_enter Try.func67 rfl Try.ntmps67 rfl ?_; intro H
  refine C_seq ?_
  refine C_region (l := [0]) rfl ?_
  refine Y_assign ?_
  refine XD_end ?_
  refine K_then ?_
  refine C_seq ?_
  refine C_region (l := [0, 1, 2]) rfl ?_
  refine Y_move ?_
  iterate 2 refine Y_assign ?_
  refine XD_end ?_
  refine K_then ?_
  refine Y_pk [6, 5, 4, 1] ?_
  refine C_seq ?_
  refine C_block ?_
  refine Y_pk [5, 6, 4, 1] ?_
  refine C_loopS (.succ (.succ .zero)) (fun (x : Nat × Nat) z => z = [(5, .int .i64 (x.1 : Int)), (6, .int .i64 (x.2 : Int))] ∧ x.1 ≤ x.2 ∧ x.2 ≤ n ∧ (∀ y, y < x.1 → p y = false) ∧ (x.2 < n → p x.2 = true)) (fun x => x.2 - x.1) ((0, n)) (⟨rfl, Nat.zero_le _, Nat.le_refl _, fun y h => (by cases h), fun h => (by omega)⟩) ?_
  rintro ⟨a, b⟩ z ⟨hz, h1, h2, h3, h4⟩
  simp only at hz h1 h2 h3 h4
  subst hz
  iterate 2 refine C_seq ?_
  refine C_region (l := [0, 1, 2]) rfl ?_
  iterate 2 refine Y_move ?_
  refine Y_cmp ?_
  refine XD_end ?_
  refine K_then ?_
  refine C_cond rfl (fun hc1 => ?_) (fun hc1 => ?_)
  ·skip
   replace hc1 := dT hc1
   refine C_skip ?_
   refine K_then ?_
   refine C_block ?_
   refine C_seq ?_
   refine C_region (l := [0, 1, 2, 3, 4, 5, 6]) rfl ?_
   iterate 2 refine Y_move ?_
   refine X_ari rfl rfl rfl rfl rfl (by exact wrap_in (by decide) (by omega)) rfl ?_
   refine X_conv rfl rfl rfl Try.underlying3 Try.underlying102 (by exact wrap_u64_in (by decide) (by omega)) rfl ?_
   refine X_shift rfl rfl rfl rfl (by decide) (shr_lit 1 (by decide)) rfl rfl ?_
   refine X_conv rfl rfl rfl Try.underlying102 Try.underlying3 (by exact wrap_in (by decide) (by omega)) rfl ?_
   have e9 : ((a : Int) + (b : Int)) / 2 ^ 1 = (((a + b) / 2 : Nat) : Int) := by omega
   rw [e9]
   refine Y_assign ?_
   refine XD_end ?_
   refine K_then ?_
   refine C_seq ?_
   refine C_region (l := [0, 1, 2, 3]) rfl ?_
   iterate 2 refine Y_move ?_
   have hab : a < b := by omega
   refine X_foV rfl rfl rfl hok rfl rfl (hc ((a + b) / 2) (by omega)) (by repeat first | exact Rem.here _ | exact Rem.two | apply Rem.skip | apply Rem.over) (putE_some rfl) ?_
   rintro _ M1 _ ⟨hM1, rfl⟩; subst M1
   refine Y_not ?_
   refine XD_end ?_
   refine K_then ?_
   refine C_cond rfl (fun hc2 => ?_) (fun hc2 => ?_)
   ·simp only [Bool.not_eq_true', Bool.not_eq_false'] at hc2
    have hP := hc2
    refine C_region (l := [0, 1, 2]) rfl ?_
    refine Y_move ?_
    refine X_ari rfl rfl rfl rfl rfl (by exact wrap_in (by decide) (by omega)) rfl ?_
    refine Y_assign ?_
    refine XD_end ?_
    refine K_out ?_
    refine K_roundS (a' := [(5, _), (6, _)]) (((a + b) / 2 + 1, b)) (.cons (k := 5) rfl (.cons (k := 6) rfl (.cons (k := 4) rfl (.cons (k := 1) rfl (.nil))))) (fun w hw => by first | exact hw | exact hw.c) ?_ ?_
    ·refine ⟨rfl, (by show (a + b) / 2 + 1 ≤ b; omega), h2, fun y hy => ?_, h4⟩
     have hy2 : y < (a + b) / 2 + 1 := hy
     cases hpy : p y with
     |false => rfl
     |true => have := hmono y ((a + b) / 2) (by omega) (by omega) hpy; simp_all
    ·show b - ((a + b) / 2 + 1) < b - a; omega
   ·simp only [Bool.not_eq_true', Bool.not_eq_false'] at hc2
    have hP := hc2
    refine C_region (l := [0, 1]) rfl ?_
    refine Y_move ?_
    refine Y_assign ?_
    refine XD_end ?_
    refine K_out ?_
    refine K_roundS (a' := [(5, _), (6, _)]) ((a, (a + b) / 2)) (.cons (k := 5) rfl (.cons (k := 6) rfl (.cons (k := 4) rfl (.cons (k := 1) rfl (.nil))))) (fun w hw => by first | exact hw | exact hw.c) ?_ ?_
    ·exact ⟨rfl, (by show a ≤ (a + b) / 2; omega), (by show (a + b) / 2 ≤ n; omega), h3, fun _ => by simpa using hP⟩
    ·show (a + b) / 2 - a < b - a; omega
  ·skip
   replace hc1 := dF hc1
   refine C_exit ?_
   iterate 2 refine K_exit ?_
   refine K_hit ?_
   refine K_then ?_
   refine Y_pk [5, 4] ?_
   refine C_seq ?_
   refine C_region (l := [0, 1]) rfl ?_
   refine Y_move ?_
   refine Y_assign ?_
   refine XD_end ?_
   refine K_then ?_
   refine Y_pk [4] ?_
   refine C_ret ?_
   refine K_end (.inr rfl) (.tmp rfl .nil) (fun w hw => ?_)
   refine ⟨_, M, rfl, Mem.le.refl M, hw.c, rfl, ?_⟩
   refine congrArg (Value.int .i64) ?_
   have e : a = b := by omega
   subst e
   exact congrArg Nat.cast (firstP_at h2 h3 h4).symm

theorem own1_ok (M : Mem) (b1 b2 : Nat) (l : Sl PeerV) (x : Plc) (s_l : SlM M l.a (l.l.map PeerV.segs) 21) (i : Nat) (hi : i < l.l.length) : Fo Try.prog 68 ([.int .i64 (i : Int)] ++ [.pointer (some ⟨b1, 0, none⟩), .pointer (some ⟨b2, 0, none⟩)]) M [(b2, rowO [idSeg x] 33), (b1, rowO [.one l.val] 22)] (fun M' v => M' = M ∧ v = .bool (pO l.l x i)) := by
  obtain ⟨l_a, l_c, l_l⟩ := l
  simp only at s_l hi
  have n_l : (l_l.map PeerV.segs).length = l_l.length := List.length_map ..
  refine fo_enter Try.func68 rfl Try.ntmps68 rfl ?_; intro H
  refine C_seq ?_
  refine C_region (l := [0]) rfl ?_
  refine Y_assign ?_
  refine XD_end ?_
  refine K_then ?_
  refine C_seq ?_
  refine C_region_any (l := [0, 1, 2, 3, 4, 5, 6, 7, 8]) #[0, 0, 3, 7, 15, 0, 63, 127, 255] _ rfl (by kernel_rfl) (by kernel_rfl) St.drawn (fun _ h => h) ?_
  refine Y_load F.lay22 ?_
  refine Y_move ?_
  refine X_indexAddr rfl rfl rfl rfl F.elem22 (by rfl) (by omega) (by exact SlM.plain (by assumption) (by (simp; omega))) rfl ?_
  refine X_fieldAddr_el rfl rfl rfl (by exact SlM.plain (by assumption) (by (simp; omega))) F.foff54_1 rfl ?_
  refine X_load_el rfl rfl rfl (by assumption) (by exact row_map (by omega)) F.lay33 rfl rfl rfl ?_
  refine Y_load F.lay33 ?_
  refine X_fs rfl rfl F.ok46 rfl (Less_ok _ _ _) rfl ?_
  rintro _ rfl
  refine Y_not ?_
  refine Y_assign ?_
  refine XD_end ?_
  refine K_then ?_
  refine Y_pk [4] ?_
  refine C_ret ?_
  refine K_end (.inr rfl) (.tmp rfl .nil) (fun w hw => ?_)
  exact ⟨_, M, rfl, Mem.le.refl M, hw.c, rfl, congrArg Value.bool (by rw [pO_at hi]; simp)⟩

theorem owner_ok (M : Mem) (l : (Sl PeerV)) (x : Plc) (hl0 : SlK M PeerV.segs 21 l) (hc : IsCircle l.l) : Fs Try.prog 49 [Sl.val l, aggV [idSeg x]] M (fun v => v = Value.int .i64 (((ownerI l.l x : Nat) : Int))) := by
  obtain ⟨l_a, l_c, l_l⟩ := l
  have k_l : SlK M PeerV.segs 21 ⟨l_a, l_c, l_l⟩ := hl0
  have s_l : SlM M l_a (l_l.map PeerV.segs) 21 := k_l.h1
  have n_l : (l_l.map PeerV.segs).length = l_l.length := List.length_map ..
  have m_l : l_l.length ≤ 9223372036854775807 := k_l.h2
  have c_l : l_l.length ≤ l_c := k_l.h3
  have hc1 := hc.1
  simp only at hc1
  refine fs_enter Try.func49 rfl Try.ntmps49 rfl ?_; intro H
  refine C_seq ?_
  refine C_region (l := [0, 1, 2]) rfl ?_
  refine Y_box ?_; intro b1
  refine Y_box ?_; intro b2
  refine Y_assign ?_
  refine XD_end ?_
  refine K_then ?_
  refine Y_pk [4, 3, 2] ?_
  refine C_seq ?_
  refine C_region_any (l := [0, 1, 2, 3, 4, 5, 6, 7]) #[0, 1, 0, 7, 0, 16, 63, 127] _ rfl (by kernel_rfl) (by kernel_rfl) St.drawn (fun _ h => h) ?_
  refine Y_load F.lay22 ?_
  refine Y_len_sl F.elem22 ?_
  refine X_makeFunc rfl rfl rfl rfl rfl ?_
  refine X_fo rfl rfl F.ok67 rfl (Search_ok _ _ 68 [_, _] (pO l_l x) l_l.length (by omega) F.ok68 (fun i hi => own1_ok M _ _ ⟨l_a, l_c, l_l⟩ x s_l i hi) (pO_mono hc.2)) (by repeat first | exact Rem.here _ | exact Rem.two | apply Rem.skip | apply Rem.over) (putE_some rfl) ?_
  rintro _ M1 _ ⟨hM1, rfl⟩; subst M1
  refine Y_load F.lay22 ?_
  refine Y_len_sl F.elem22 ?_
  refine X_rem rfl rfl rfl rfl (by omega) (by exact rem_nn (by omega)) rfl ?_
  refine Y_assign ?_
  refine XD_end ?_
  refine K_then ?_
  refine Y_pk [4] ?_
  refine C_ret ?_
  refine K_end (.inr rfl) (.tmp rfl .nil) (fun w hw => ?_)
  refine ⟨_, rfl, (hw.c), ?_⟩
  clear hw
  exact congrArg (Value.int .i64) (Int.natCast_emod _ _).symm

theorem Owner_ok (M : Mem) (l : (Sl PeerV)) (x : Plc) (hl0 : SlK M PeerV.segs 21 l) : Fs Try.prog 27 [Sl.val l, aggV [idSeg x]] M (fun v => v = ofII (ownerR l.l x)) := by
  obtain ⟨l_a, l_c, l_l⟩ := l
  have k_l : SlK M PeerV.segs 21 ⟨l_a, l_c, l_l⟩ := hl0
  have s_l : SlM M l_a (l_l.map PeerV.segs) 21 := k_l.h1
  have n_l : (l_l.map PeerV.segs).length = l_l.length := List.length_map ..
  have m_l : l_l.length ≤ 9223372036854775807 := k_l.h2
  have c_l : l_l.length ≤ l_c := k_l.h3
  refine fs_enter Try.func27 rfl Try.ntmps27 rfl ?_; intro H
  refine C_seq ?_
  refine C_region (l := [0, 1, 2]) rfl ?_
  refine Y_box ?_; intro b1
  iterate 2 refine Y_assign ?_
  refine XD_end ?_
  refine K_then ?_
  refine Y_pk [5, 4, 3, 0] ?_
  iterate 2 refine C_seq ?_
  refine C_region (l := [0, 1, 2]) rfl ?_
  refine Y_move ?_
  refine X_fs rfl rfl F.ok48 rfl (Circ_ok _ ⟨_, _, _⟩ (by assumption)) rfl ?_
  rintro _ rfl
  refine Y_not ?_
  refine XD_end ?_
  refine K_then ?_
  refine Y_pk [8, 5, 4, 3, 0] ?_
  refine C_cond rfl (fun hc2 => ?_) (fun hc2 => ?_)
  ·replace hc2 := nT hc2
   simp only [AnswerV.eta, MarkV.eta, CellV.eta, HeldV.eta, PeerV.eta] at hc2
   refine C_seq ?_
   refine C_region (l := [0, 1]) rfl ?_
   iterate 2 refine Y_assign ?_
   refine XD_end ?_
   refine K_then ?_
   refine Y_pk [5, 4, 3, 0] ?_
   refine C_ret ?_
   refine K_ret ?_
   refine K_end (.inr rfl) (.tmp rfl (.tmp rfl .nil)) (fun w hw => ?_)
   refine ⟨_, rfl, (hw.c), ?_⟩
   clear hw
   refine congrArg ofII (a₁ := (_, _)) ?_
   grind [w64, ownerR]
  ·replace hc2 := nF hc2
   simp only [AnswerV.eta, MarkV.eta, CellV.eta, HeldV.eta, PeerV.eta] at hc2
   refine C_skip ?_
   refine K_then ?_
   refine Y_pk [5, 4, 3, 0] ?_
   refine C_seq ?_
   refine C_region (l := [0, 1, 2, 3, 4]) rfl ?_
   refine Y_move ?_
   refine Y_load F.lay33 ?_
   refine X_fs rfl rfl F.ok49 rfl (owner_ok _ ⟨_, _, _⟩ _ (by assumption) (by assumption)) rfl ?_
   rintro _ rfl
   iterate 2 refine Y_assign ?_
   refine XD_end ?_
   refine K_then ?_
   refine Y_pk [5, 4] ?_
   refine C_ret ?_
   refine K_end (.inr rfl) (.tmp rfl (.tmp rfl .nil)) (fun w hw => ?_)
   refine ⟨_, rfl, (hw.c), ?_⟩
   clear hw
   refine congrArg ofII (a₁ := (_, _)) ?_
   grind [w64, ownerR]

theorem rOwner_ok (M : Mem) (l : (Sl PeerV)) (x : Plc) (hl0 : SlK M PeerV.segs 21 l) : Fs Try.prog 75 [Sl.val l, aggV [idSeg x]] M (fun v => v = ofII (ownerR l.l x)) := by
  obtain ⟨l_a, l_c, l_l⟩ := l
  have k_l : SlK M PeerV.segs 21 ⟨l_a, l_c, l_l⟩ := hl0
  have s_l : SlM M l_a (l_l.map PeerV.segs) 21 := k_l.h1
  have n_l : (l_l.map PeerV.segs).length = l_l.length := List.length_map ..
  have m_l : l_l.length ≤ 9223372036854775807 := k_l.h2
  have c_l : l_l.length ≤ l_c := k_l.h3
  refine fs_enter Try.func75 rfl Try.ntmps75 rfl ?_; intro H
  refine C_seq ?_
  refine C_region (l := [0, 1, 2]) rfl ?_
  refine Y_box ?_; intro b1
  iterate 2 refine Y_assign ?_
  refine XD_end ?_
  refine K_then ?_
  refine Y_pk [5, 4, 3, 0] ?_
  iterate 2 refine C_seq ?_
  refine C_region (l := [0, 1, 2]) rfl ?_
  refine Y_move ?_
  refine X_fs rfl rfl F.ok57 rfl (rCirc_ok _ ⟨_, _, _⟩ (by assumption)) rfl ?_
  rintro _ rfl
  refine Y_not ?_
  refine XD_end ?_
  refine K_then ?_
  refine Y_pk [9, 5, 4, 3, 0] ?_
  refine C_cond rfl (fun hc2 => ?_) (fun hc2 => ?_)
  ·replace hc2 := nT hc2
   simp only [AnswerV.eta, MarkV.eta, CellV.eta, HeldV.eta, PeerV.eta] at hc2
   refine C_seq ?_
   refine C_region (l := [0, 1]) rfl ?_
   iterate 2 refine Y_assign ?_
   refine XD_end ?_
   refine K_then ?_
   refine Y_pk [5, 4, 3, 0] ?_
   refine C_ret ?_
   refine K_ret ?_
   refine K_end (.inr rfl) (.tmp rfl (.tmp rfl .nil)) (fun w hw => ?_)
   refine ⟨_, rfl, (hw.c), ?_⟩
   clear hw
   refine congrArg ofII (a₁ := (_, _)) ?_
   grind [ownerR]
  ·replace hc2 := nF hc2
   simp only [AnswerV.eta, MarkV.eta, CellV.eta, HeldV.eta, PeerV.eta] at hc2
   refine C_skip ?_
   refine K_then ?_
   refine Y_pk [5, 4, 3, 0] ?_
   iterate 2 refine C_seq ?_
   refine C_region (l := [0]) rfl ?_
   refine Y_assign ?_
   refine XD_end ?_
   refine K_then ?_
   refine C_block ?_
   refine Y_pk [6, 5, 4, 3, 0] ?_
   refine C_loopS (.succ .zero) (fun (k : Nat) z => z = [(6, .int .i64 (k : Int))] ∧ k ≤ l_l.length ∧ (IsCircle l_l ∧ ∀ j, j < k → pO l_l x j = false)) (fun k => l_l.length - k) (0) (⟨rfl, by omega, by (refine ⟨by assumption, ?_⟩; intro j hj; omega)⟩) ?_
   rintro k _ ⟨rfl, hk, hI⟩
   iterate 2 refine C_seq ?_
   refine C_region (l := [0, 1, 2, 3]) rfl ?_
   iterate 2 refine Y_move ?_
   refine Y_len_sl F.elem22 ?_
   refine Y_cmp ?_
   refine XD_end ?_
   refine K_then ?_
   refine C_cond rfl (fun hc3 => ?_) (fun hc3 => ?_)
   ·replace hc3 := dT hc3
    refine C_skip ?_
    refine K_then ?_
    refine C_seq ?_
    refine C_block ?_
    refine C_seq ?_
    refine C_region_any (l := [0, 1, 2, 3, 4, 5, 6, 7]) #[0, 0, 3, 7, 15, 0, 63, 127] _ rfl (by kernel_rfl) (by kernel_rfl) St.drawn (fun _ h => h) ?_
    iterate 2 refine Y_move ?_
    refine X_indexAddr rfl rfl rfl rfl F.elem22 (by rfl) (by omega) (by exact SlM.plain (by assumption) (by (simp; omega))) rfl ?_
    refine X_fieldAddr_el rfl rfl rfl (by exact SlM.plain (by assumption) (by (simp; omega))) F.foff54_1 rfl ?_
    refine X_load_el rfl rfl rfl (by assumption) (by exact row_map (by omega)) F.lay33 rfl rfl rfl ?_
    refine Y_load F.lay33 ?_
    refine X_fs rfl rfl F.ok47 rfl (rLess_ok _ _ _) rfl ?_
    rintro _ rfl
    refine Y_not ?_
    refine XD_end ?_
    refine K_then ?_
    refine C_cond rfl (fun hc4 => ?_) (fun hc4 => ?_)
    ·replace hc4 := nT hc4
     simp only [List.get_eq_getElem] at hc4
     refine C_seq ?_
     refine C_region (l := [0, 1, 2]) rfl ?_
     refine Y_move ?_
     iterate 2 refine Y_assign ?_
     refine XD_end ?_
     refine K_then ?_
     refine C_ret ?_
     refine K_retB ?_
     iterate 2 refine K_ret ?_
     refine K_retB ?_
     refine K_ret ?_
     refine K_end (.inr rfl) (.tmp rfl (.tmp rfl .nil)) (fun w hw => ?_)
     refine ⟨_, rfl, (hw.c), ?_⟩
     clear hw
     refine congrArg ofII (a₁ := (_, _)) ?_
     (have h9 := ownerI_at (l := l_l) (x := x) (k := k) (by omega) hI.2 (by rw [pO_at (by omega)]; simp_all); grind [ownerR])
    ·replace hc4 := nF hc4
     simp only [List.get_eq_getElem] at hc4
     refine C_skip ?_
     refine K_out ?_
     refine K_then ?_
     refine C_region (l := [0, 1, 2]) rfl ?_
     refine Y_move ?_
     refine X_ari rfl rfl rfl rfl rfl (by exact wrap_in (by decide) (by omega)) rfl ?_
     refine Y_assign ?_
     refine XD_end ?_
     refine K_roundS (a' := [(6, _)]) (k + 1) (.cons (k := 6) rfl (.cons (k := 5) rfl (.cons (k := 4) rfl (.cons (k := 3) rfl (.cons (k := 0) rfl (.nil)))))) (fun w hw => by first | exact hw | exact hw.c) ?_ ?_
     ·refine ⟨rfl, by omega, ?_⟩
      refine ⟨hI.1, ?_⟩; intro j hj; rcases Nat.lt_or_ge j k with h9 | h9; exact hI.2 j h9; obtain rfl : j = k := by omega
      rw [pO_at (by omega)]; simp_all
     ·omega
   ·replace hc3 := dF hc3
    refine C_exit ?_
    iterate 2 refine K_exit ?_
    refine K_hit ?_
    refine K_then ?_
    refine Y_pk [5, 4] ?_
    refine C_seq ?_
    refine C_region (l := [0, 1]) rfl ?_
    iterate 2 refine Y_assign ?_
    refine XD_end ?_
    refine K_then ?_
    refine C_ret ?_
    refine K_end (.inr rfl) (.tmp rfl (.tmp rfl .nil)) (fun w hw => ?_)
    refine ⟨_, rfl, (hw.c), ?_⟩
    clear hw
    refine congrArg ofII (a₁ := (_, _)) ?_
    (have hk9 : k = l_l.length := (by omega); subst hk9; have h9 := ownerI_none hI.2; grind [ownerR])

theorem Copies_ok (M : Mem) (l : (Sl PeerV)) (x : Plc) (r : Int) (hl0 : SlK M PeerV.segs 21 l) : Esp.Fn Try.prog 56 [Sl.val l, aggV [idSeg x], .int .i64 r] M (fun M' v => IntsE M' v (copiesR l.l x r)) := by
  obtain ⟨l_a, l_c, l_l⟩ := l
  have k_l : SlK M PeerV.segs 21 ⟨l_a, l_c, l_l⟩ := hl0
  have s_l : SlM M l_a (l_l.map PeerV.segs) 21 := k_l.h1
  have n_l : (l_l.map PeerV.segs).length = l_l.length := List.length_map ..
  have m_l : l_l.length ≤ 9223372036854775807 := k_l.h2
  have c_l : l_l.length ≤ l_c := k_l.h3
  refine fn_enter Try.func56 rfl Try.ntmps56 rfl ?_; intro H
  refine C_seq ?_
  refine C_region (l := [0, 1, 2]) rfl ?_
  refine Y_box ?_; intro b1
  iterate 2 refine Y_assign ?_
  refine XD_end ?_
  refine K_then ?_
  refine Y_pk [7, 6, 4, 0, 2] ?_
  iterate 2 refine C_seq ?_
  refine C_region (l := [0, 1, 2, 3, 4, 5, 6, 7, 8, 9, 10]) rfl ?_
  refine Y_move ?_
  refine X_fs rfl rfl F.ok48 rfl (Circ_ok _ ⟨_, _, _⟩ (by assumption)) rfl ?_
  rintro _ rfl
  refine Y_not ?_
  refine Y_move ?_
  refine XD_part 14 rfl (fun hc2 => ?_) (fun hc2 => ?_)
  ·replace hc2 := nT hc2
   simp only [AnswerV.eta, MarkV.eta, CellV.eta, HeldV.eta, PeerV.eta] at hc2
   iterate 2 refine Y_skip ?_
   refine Y_pick ?_
   refine Y_move ?_
   iterate 2 refine Y_skip ?_
   refine Y_pick ?_
   refine XD_end ?_
   refine K_then ?_
   refine Y_pk [21, 7, 6, 4, 0, 2] ?_
   refine C_true rfl ?_
   refine C_seq ?_
   refine C_region (l := [0, 1]) rfl ?_
   iterate 2 refine Y_assign ?_
   refine XD_end ?_
   refine K_then ?_
   refine Y_pk [7, 6, 4, 0, 2] ?_
   refine C_ret ?_
   refine K_ret ?_
   refine K_end (.inr rfl) (.tmp rfl (.tmp rfl .nil)) (fun w hw => ?_)
   refine ⟨_, M, rfl, Mem.le.refl M, hw.c, ?_⟩
   rw [show copiesR l_l x r = ([], 1) from copiesR_no (by rintro ⟨g1, g2, g3⟩; first | exact absurd g1 (by assumption) | omega | exact hcn (by assumption) g1)]
   exact ⟨⟨none, 0, []⟩, rfl, rfl, SlK.nil⟩
  ·replace hc2 := nF hc2
   simp only [AnswerV.eta, MarkV.eta, CellV.eta, HeldV.eta, PeerV.eta] at hc2
   refine Y_move ?_
   refine Y_cmp ?_
   refine Y_pick ?_
   refine Y_move ?_
   refine XD_part 18 rfl (fun hc3 => ?_) (fun hc3 => ?_)
   ·replace hc3 := dT hc3
    iterate 2 refine Y_skip ?_
    refine Y_pick ?_
    refine XD_end ?_
    refine K_then ?_
    refine Y_pk [21, 7, 6, 4, 0, 2] ?_
    refine C_true rfl ?_
    refine C_seq ?_
    refine C_region (l := [0, 1]) rfl ?_
    iterate 2 refine Y_assign ?_
    refine XD_end ?_
    refine K_then ?_
    refine Y_pk [7, 6, 4, 0, 2] ?_
    refine C_ret ?_
    refine K_ret ?_
    refine K_end (.inr rfl) (.tmp rfl (.tmp rfl .nil)) (fun w hw => ?_)
    refine ⟨_, M, rfl, Mem.le.refl M, hw.c, ?_⟩
    rw [show copiesR l_l x r = ([], 1) from copiesR_no (by rintro ⟨g1, g2, g3⟩; first | exact absurd g1 (by assumption) | omega | exact hcn (by assumption) g1)]
    exact ⟨⟨none, 0, []⟩, rfl, rfl, SlK.nil⟩
   ·replace hc3 := dF hc3
    refine Y_move ?_
    refine Y_cmp ?_
    refine Y_pick ?_
    refine XD_end ?_
    refine K_then ?_
    refine Y_pk [21, 7, 6, 4, 0, 2] ?_
    refine C_cond rfl (fun hc4 => ?_) (fun hc4 => ?_)
    ·replace hc4 := dT hc4
     refine C_seq ?_
     refine C_region (l := [0, 1]) rfl ?_
     iterate 2 refine Y_assign ?_
     refine XD_end ?_
     refine K_then ?_
     refine Y_pk [7, 6, 4, 0, 2] ?_
     refine C_ret ?_
     refine K_ret ?_
     refine K_end (.inr rfl) (.tmp rfl (.tmp rfl .nil)) (fun w hw => ?_)
     refine ⟨_, M, rfl, Mem.le.refl M, hw.c, ?_⟩
     rw [show copiesR l_l x r = ([], 1) from copiesR_no (by rintro ⟨g1, g2, g3⟩; first | exact absurd g1 (by assumption) | omega | exact hcn (by assumption) g1)]
     exact ⟨⟨none, 0, []⟩, rfl, rfl, SlK.nil⟩
    ·replace hc4 := dF hc4
     refine C_skip ?_
     refine K_then ?_
     refine Y_pk [7, 6, 4, 0, 2] ?_
     refine C_seq ?_
     refine C_region (l := [0, 1, 2, 3]) rfl ?_
     obtain ⟨rn, rfl⟩ : ∃ n : Nat, r = n := ⟨r.toNat, by omega⟩
     have hc : IsCircle l_l := by first | assumption | exact hcc (by assumption)
     have hc1 := hc.1
     obtain ⟨o9, hog⟩ : ∃ o, ownerI l_l x = o := ⟨_, rfl⟩
     have ho9 : o9 < l_l.length := by rw [← hog]; exact ownerI_lt (by omega)
     refine Y_move ?_
     refine Y_load F.lay33 ?_
     refine X_fs rfl rfl F.ok49 rfl (owner_ok _ ⟨l_a, l_c, l_l⟩ x k_l hc) rfl ?_
     rintro _ hv
     replace hv : _ = Value.int .i64 ((ownerI l_l x : Nat) : Int) := hv
     rw [hog] at hv
     subst hv
     refine Y_assign ?_
     refine XD_end ?_
     refine K_then ?_
     refine Y_pk [8, 7, 6, 0, 2] ?_
     refine C_seq ?_
     refine C_region (l := [0]) rfl ?_
     refine Y_assign ?_
     refine XD_end ?_
     refine K_then ?_
     iterate 2 refine C_seq ?_
     refine C_region (l := [0, 1, 2, 3, 4]) rfl ?_
     iterate 2 refine Y_move ?_
     refine Y_len_sl F.elem22 ?_
     refine X_min rfl rfl rfl rfl rfl rfl ?_
     obtain ⟨m9, hmn⟩ : ∃ m, m = min rn l_l.length := ⟨_, rfl⟩
     rw [show (if (l_l.length : Int) < (rn : Int) then (l_l.length : Int) else (rn : Int)) = (m9 : Int) by split <;> omega]
     refine Y_move ?_
     refine XD_end ?_
     refine K_then ?_
     refine Y_pk [29, 28, 9, 8, 7, 6, 0] ?_
     refine C_block ?_
     refine Y_pk [29, 9, 28, 8, 7, 6, 0] ?_
     refine C_loopO (Hin := []) (.succ (.succ .zero)) (by repeat first | exact Rem.here _ | exact Rem.two | apply Rem.skip | apply Rem.over) (fun (k : Nat) M1 h1 z => ∃ v, M1 = M ∧ z = [(29, .int .i64 (k : Int)), (9, v)] ∧ k ≤ rn ∧ k ≤ l_l.length ∧ OSl 3 1 v h1 (((List.range k).map fun k => (((o9 + k) % l_l.length : Nat) : Int)).map (oneI .i64))) (fun k => l_l.length - k) (0) (⟨_, rfl, rfl, by omega, by omega, OSl.nil⟩) ?_
     rintro k M1 h1 z hm1 ⟨v0, hM1, rfl, hk, hk2, ho⟩
     subst hM1
     obtain ⟨ad0, cp0, rfl⟩ := ho.val
     have hml : (((List.range k).map fun k => (((o9 + k) % l_l.length : Nat) : Int)).map (oneI .i64)).length = k := by simp
     rw [hml] at ho ⊢
     refine C_seq ?_
     refine C_region (l := [0]) rfl ?_
     refine Y_cmp ?_
     refine XD_end ?_
     refine K_then ?_
     refine C_seq ?_
     refine C_cond rfl (fun hc5 => ?_) (fun hc5 => ?_)
     ·replace hc5 := dT hc5
      refine C_skip ?_
      refine K_then ?_
      refine C_seq ?_
      refine C_block ?_
      refine C_seq ?_
      refine C_region (l := [0, 1]) rfl ?_
      refine Y_move ?_
      refine Y_assign ?_
      refine XD_end ?_
      refine K_then ?_
      refine C_region (l := [0, 1, 2, 3, 4, 5, 6, 7, 8, 9]) rfl ?_
      iterate 3 refine Y_move ?_
      refine X_ari rfl rfl rfl rfl rfl (by exact wrap_in (by decide) (by omega)) rfl ?_
      refine Y_move ?_
      refine Y_len_sl F.elem22 ?_
      refine X_rem rfl rfl rfl rfl (by omega) (by exact rem_nn (by omega)) rfl ?_
      have hq0 : (((o9 : Nat) : Int) + (k : Int)) % (l_l.length : Int) = (((o9 + k) % l_l.length : Nat) : Int) := by rw [Int.natCast_emod]; first | rfl | (congr 1; omega)
      rw [hq0]
      refine X_buildSliceF rfl rfl F.elem52 F.zero3 rfl rfl (.cons rfl (by constructor) .nil) rfl rfl (by simp only [List.map_cons, List.map_nil] <;> rfl) rfl ?_; intro b6 hob7
      refine X_append (m := 1000000) rfl rfl rfl rfl rfl F.elem52 F.zero3 (by rfl) rfl (by assumption) (by repeat first | exact Rem.here _ | exact Rem.two | apply Rem.skip | apply Rem.over) (Src.own hob7.lens (by (refine rows_one1 ?_; (repeat (first | exact flat_nil | refine flat_id ?_ | (refine flat_one ?_ ?_; rfl))); done)) rfl (by repeat first | exact List.Mem.head _ | refine List.Mem.tail _ ?_ | refine List.mem_append_right _ ?_)) (by (simp; omega)) (by decide) rfl ?_; intro v10 hs9 ho8; obtain ⟨adv10, cpv10, rfl⟩ := ho8.valAt (n := k + 1) (by (simp; done))
      refine Y_assign ?_
      refine XD_end ?_
      refine K_out ?_
      refine K_then ?_
      refine C_region (l := [0, 1]) rfl ?_
      refine X_ari rfl rfl rfl rfl rfl (by exact wrap_in (by decide) (by omega)) rfl ?_
      refine Y_move ?_
      refine XD_end ?_
      refine K_roundO (a' := [(29, _), (9, _)]) (k + 1) (hs9) (.cons (k := 29) rfl (.cons (k := 9) rfl (.cons (k := 28) rfl (.cons (k := 8) rfl (.cons (k := 7) rfl (.cons (k := 6) rfl (.cons (k := 0) rfl (.nil)))))))) (by exact Mem.le.refl _) (fun w hw => by first | exact hw | exact hw.c) ?_ ?_
      ·refine ⟨_, rfl, rfl, by omega, by omega, ?_⟩
       rw [List.range_succ, List.map_append, List.map_append]
       exact ho8
      ·omega
     ·replace hc5 := dF hc5
      refine C_exit ?_
      iterate 2 refine K_exit ?_
      refine K_hit ?_
      refine K_then ?_
      refine Y_pk [9, 7, 6] ?_
      refine C_seq ?_
      refine C_region (l := [0, 1, 2]) rfl ?_
      refine Y_move ?_
      iterate 2 refine Y_assign ?_
      refine XD_end ?_
      refine K_then ?_
      refine Y_pk [7, 6] ?_
      refine C_ret ?_
      refine K_end (.inr rfl) (.tmp rfl (.tmp rfl .nil)) (fun w hw => ?_)
      obtain rfl : k = min rn l_l.length := by omega
      obtain ⟨M9, s1, g1, g2, g3, g4, g5⟩ := OSl.freezeK (f := oneI .i64) (H := H) (l := (List.range (min rn l_l.length)).map fun k => (((o9 + k) % l_l.length : Nat) : Int)) (ho) (hw.c)
      refine ⟨_, M9, rfl, g1, g2, ?_⟩
      rw [show copiesR l_l x ((rn : Nat) : Int) = _ from copiesR_yes hc (by omega) (by omega)]
      simp only [hog]
      exact ⟨s1, by rw [← g3]; rfl, g4, g5⟩

theorem rCopies_ok (M : Mem) (l : (Sl PeerV)) (x : Plc) (r : Int) (hl0 : SlK M PeerV.segs 21 l) : Esp.Fn Try.prog 58 [Sl.val l, aggV [idSeg x], .int .i64 r] M (fun M' v => IntsE M' v (copiesR l.l x r)) := by
  obtain ⟨l_a, l_c, l_l⟩ := l
  have k_l : SlK M PeerV.segs 21 ⟨l_a, l_c, l_l⟩ := hl0
  have s_l : SlM M l_a (l_l.map PeerV.segs) 21 := k_l.h1
  have n_l : (l_l.map PeerV.segs).length = l_l.length := List.length_map ..
  have m_l : l_l.length ≤ 9223372036854775807 := k_l.h2
  have c_l : l_l.length ≤ l_c := k_l.h3
  refine fn_enter Try.func58 rfl Try.ntmps58 rfl ?_; intro H
  refine C_seq ?_
  refine C_region (l := [0, 1, 2]) rfl ?_
  refine Y_box ?_; intro b1
  iterate 2 refine Y_assign ?_
  refine XD_end ?_
  refine K_then ?_
  refine Y_pk [7, 6, 4, 0, 2] ?_
  refine C_seq ?_
  refine C_region (l := [0, 1, 2, 3, 4, 5, 6, 7]) rfl ?_
  refine Y_move ?_
  refine Y_load F.lay33 ?_
  refine X_fs rfl rfl F.ok75 rfl (rOwner_ok _ ⟨l_a, l_c, l_l⟩ x k_l) rfl ?_
  rintro _ hv
  obtain ⟨⟨ow, co⟩, howe⟩ : ∃ q, ownerR l_l x = q := ⟨_, rfl⟩
  replace hv : _ = ofII (ownerR l_l x) := hv
  rw [howe] at hv
  subst hv
  have hcc : co = 0 → IsCircle l_l := fun e => by unfold ownerR at howe; split at howe; assumption; cases howe; cases e
  have hcn : co ≠ 0 → ¬ IsCircle l_l := fun e h9 => by unfold ownerR at howe; rw [if_pos h9] at howe; cases howe; exact e rfl
  refine Y_move ?_
  iterate 2 refine Y_extract ?_
  iterate 2 refine Y_assign ?_
  refine XD_end ?_
  refine K_then ?_
  refine Y_pk [9, 8, 7, 6, 0, 2] ?_
  iterate 2 refine C_seq ?_
  refine C_region (l := [0, 1, 2, 3, 4, 5, 6, 7, 8, 9]) rfl ?_
  refine Y_move ?_
  refine Y_cmp ?_
  refine Y_move ?_
  refine XD_part 20 rfl (fun hc2 => ?_) (fun hc2 => ?_)
  ·replace hc2 := nT hc2
   simp only [AnswerV.eta, MarkV.eta, CellV.eta, HeldV.eta, PeerV.eta] at hc2
   iterate 2 refine Y_skip ?_
   refine Y_pick ?_
   refine Y_move ?_
   iterate 2 refine Y_skip ?_
   refine Y_pick ?_
   refine XD_end ?_
   refine K_then ?_
   refine Y_pk [27, 8, 7, 6, 0, 2] ?_
   refine C_true rfl ?_
   refine C_seq ?_
   refine C_region (l := [0, 1]) rfl ?_
   iterate 2 refine Y_assign ?_
   refine XD_end ?_
   refine K_then ?_
   refine Y_pk [7, 6, 8, 0, 2] ?_
   refine C_ret ?_
   refine K_ret ?_
   refine K_end (.inr rfl) (.tmp rfl (.tmp rfl .nil)) (fun w hw => ?_)
   refine ⟨_, M, rfl, Mem.le.refl M, hw.c, ?_⟩
   rw [show copiesR l_l x r = ([], 1) from copiesR_no (by rintro ⟨g1, g2, g3⟩; first | exact absurd g1 (by assumption) | omega | exact hcn (by assumption) g1)]
   exact ⟨⟨none, 0, []⟩, rfl, rfl, SlK.nil⟩
  ·replace hc2 := nF hc2
   simp only [AnswerV.eta, MarkV.eta, CellV.eta, HeldV.eta, PeerV.eta] at hc2
   refine Y_move ?_
   refine Y_cmp ?_
   refine Y_pick ?_
   refine Y_move ?_
   refine XD_part 24 rfl (fun hc3 => ?_) (fun hc3 => ?_)
   ·replace hc3 := dT hc3
    iterate 2 refine Y_skip ?_
    refine Y_pick ?_
    refine XD_end ?_
    refine K_then ?_
    refine Y_pk [27, 8, 7, 6, 0, 2] ?_
    refine C_true rfl ?_
    refine C_seq ?_
    refine C_region (l := [0, 1]) rfl ?_
    iterate 2 refine Y_assign ?_
    refine XD_end ?_
    refine K_then ?_
    refine Y_pk [7, 6, 8, 0, 2] ?_
    refine C_ret ?_
    refine K_ret ?_
    refine K_end (.inr rfl) (.tmp rfl (.tmp rfl .nil)) (fun w hw => ?_)
    refine ⟨_, M, rfl, Mem.le.refl M, hw.c, ?_⟩
    rw [show copiesR l_l x r = ([], 1) from copiesR_no (by rintro ⟨g1, g2, g3⟩; first | exact absurd g1 (by assumption) | omega | exact hcn (by assumption) g1)]
    exact ⟨⟨none, 0, []⟩, rfl, rfl, SlK.nil⟩
   ·replace hc3 := dF hc3
    refine Y_move ?_
    refine Y_cmp ?_
    refine Y_pick ?_
    refine XD_end ?_
    refine K_then ?_
    refine Y_pk [27, 8, 7, 6, 0, 2] ?_
    refine C_cond rfl (fun hc4 => ?_) (fun hc4 => ?_)
    ·replace hc4 := dT hc4
     refine C_seq ?_
     refine C_region (l := [0, 1]) rfl ?_
     iterate 2 refine Y_assign ?_
     refine XD_end ?_
     refine K_then ?_
     refine Y_pk [7, 6, 8, 0, 2] ?_
     refine C_ret ?_
     refine K_ret ?_
     refine K_end (.inr rfl) (.tmp rfl (.tmp rfl .nil)) (fun w hw => ?_)
     refine ⟨_, M, rfl, Mem.le.refl M, hw.c, ?_⟩
     rw [show copiesR l_l x r = ([], 1) from copiesR_no (by rintro ⟨g1, g2, g3⟩; first | exact absurd g1 (by assumption) | omega | exact hcn (by assumption) g1)]
     exact ⟨⟨none, 0, []⟩, rfl, rfl, SlK.nil⟩
    ·replace hc4 := dF hc4
     refine C_skip ?_
     refine K_then ?_
     refine Y_pk [8, 7, 6, 0, 2] ?_
     refine C_seq ?_
     obtain ⟨rn, rfl⟩ : ∃ n : Nat, r = n := ⟨r.toNat, by omega⟩
     have hc : IsCircle l_l := by first | assumption | exact hcc (by assumption)
     have hc1 := hc.1
     obtain ⟨o9, hog⟩ : ∃ o, ownerI l_l x = o := ⟨_, rfl⟩
     have ho9 : o9 < l_l.length := by rw [← hog]; exact ownerI_lt (by omega)
     obtain ⟨rfl, rfl⟩ : ((o9 : Nat) : Int) = ow ∧ (0 : Int) = co := by unfold ownerR at howe; rw [if_pos hc, hog] at howe; exact ⟨congrArg Prod.fst howe, congrArg Prod.snd howe⟩
     refine C_region (l := [0]) rfl ?_
     refine Y_assign ?_
     refine XD_end ?_
     refine K_then ?_
     iterate 2 refine C_seq ?_
     refine C_region (l := [0]) rfl ?_
     refine Y_assign ?_
     refine XD_end ?_
     refine K_then ?_
     refine C_block ?_
     refine Y_pk [11, 10, 8, 7, 6, 0, 2] ?_
     refine C_loopO (Hin := []) (.succ (.succ .zero)) (by repeat first | exact Rem.here _ | exact Rem.two | apply Rem.skip | apply Rem.over) (fun (k : Nat) M1 h1 z => ∃ v, M1 = M ∧ z = [(11, .int .i64 (k : Int)), (10, v)] ∧ k ≤ rn ∧ k ≤ l_l.length ∧ OSl 3 1 v h1 (((List.range k).map fun k => (((o9 + k) % l_l.length : Nat) : Int)).map (oneI .i64))) (fun k => l_l.length - k) (0) (⟨_, rfl, rfl, by omega, by omega, OSl.nil⟩) ?_
     rintro k M1 h1 z hm1 ⟨v0, hM1, rfl, hk, hk2, ho⟩
     subst hM1
     obtain ⟨ad0, cp0, rfl⟩ := ho.val
     have hml : (((List.range k).map fun k => (((o9 + k) % l_l.length : Nat) : Int)).map (oneI .i64)).length = k := by simp
     rw [hml] at ho ⊢
     iterate 2 refine C_seq ?_
     refine C_region (l := [0, 1, 2, 3, 4, 5, 6, 7, 8]) rfl ?_
     iterate 2 refine Y_move ?_
     refine Y_cmp ?_
     refine Y_move ?_
     refine XD_part 31 rfl (fun hc5 => ?_) (fun hc5 => ?_)
     ·replace hc5 := dT hc5
      iterate 2 refine Y_move ?_
      refine Y_len_sl F.elem22 ?_
      refine Y_cmp ?_
      refine Y_pick ?_
      refine XD_end ?_
      refine K_then ?_
      refine C_cond rfl (fun hc6 => ?_) (fun hc6 => ?_)
      ·replace hc6 := dT hc6
       refine C_skip ?_
       refine K_then ?_
       refine C_seq ?_
       refine C_block ?_
       refine C_region (l := [0, 1, 2, 3, 4, 5, 6, 7, 8, 9]) rfl ?_
       iterate 3 refine Y_move ?_
       refine X_ari rfl rfl rfl rfl rfl (by exact wrap_in (by decide) (by omega)) rfl ?_
       refine Y_move ?_
       refine Y_len_sl F.elem22 ?_
       refine X_rem rfl rfl rfl rfl (by omega) (by exact rem_nn (by omega)) rfl ?_
       have hq0 : (((o9 : Nat) : Int) + (k : Int)) % (l_l.length : Int) = (((o9 + k) % l_l.length : Nat) : Int) := by rw [Int.natCast_emod]; first | rfl | (congr 1; omega)
       rw [hq0]
       refine X_buildSliceF rfl rfl F.elem52 F.zero3 rfl rfl (.cons rfl (by constructor) .nil) rfl rfl (by simp only [List.map_cons, List.map_nil] <;> rfl) rfl ?_; intro b7 hob8
       refine X_append (m := 1000000) rfl rfl rfl rfl rfl F.elem52 F.zero3 (by rfl) rfl (by assumption) (by repeat first | exact Rem.here _ | exact Rem.two | apply Rem.skip | apply Rem.over) (Src.own hob8.lens (by (refine rows_one1 ?_; (repeat (first | exact flat_nil | refine flat_id ?_ | (refine flat_one ?_ ?_; rfl))); done)) rfl (by repeat first | exact List.Mem.head _ | refine List.Mem.tail _ ?_ | refine List.mem_append_right _ ?_)) (by (simp; omega)) (by decide) rfl ?_; intro v11 hs10 ho9; obtain ⟨adv11, cpv11, rfl⟩ := ho9.valAt (n := k + 1) (by (simp; done))
       refine Y_assign ?_
       refine XD_end ?_
       refine K_out ?_
       refine K_then ?_
       refine C_region (l := [0, 1, 2]) rfl ?_
       refine Y_move ?_
       refine X_ari rfl rfl rfl rfl rfl (by exact wrap_in (by decide) (by omega)) rfl ?_
       refine Y_assign ?_
       refine XD_end ?_
       refine K_roundO (a' := [(11, _), (10, _)]) (k + 1) (hs10) (.cons (k := 11) rfl (.cons (k := 10) rfl (.cons (k := 8) rfl (.cons (k := 7) rfl (.cons (k := 6) rfl (.cons (k := 0) rfl (.cons (k := 2) rfl (.nil)))))))) (by exact Mem.le.refl _) (fun w hw => by first | exact hw | exact hw.c) ?_ ?_
       ·refine ⟨_, rfl, rfl, by omega, by omega, ?_⟩
        rw [List.range_succ, List.map_append, List.map_append]
        exact ho9
       ·omega
      ·replace hc6 := dF hc6
       refine C_exit ?_
       iterate 2 refine K_exit ?_
       refine K_hit ?_
       refine K_then ?_
       refine Y_pk [10, 7, 6] ?_
       refine C_seq ?_
       refine C_region (l := [0, 1, 2]) rfl ?_
       refine Y_move ?_
       iterate 2 refine Y_assign ?_
       refine XD_end ?_
       refine K_then ?_
       refine Y_pk [7, 6] ?_
       refine C_ret ?_
       refine K_end (.inr rfl) (.tmp rfl (.tmp rfl .nil)) (fun w hw => ?_)
       obtain rfl : k = min rn l_l.length := by omega
       obtain ⟨M9, s1, g1, g2, g3, g4, g5⟩ := OSl.freezeK (f := oneI .i64) (H := H) (l := (List.range (min rn l_l.length)).map fun k => (((o9 + k) % l_l.length : Nat) : Int)) (ho) (hw.c)
       refine ⟨_, M9, rfl, g1, g2, ?_⟩
       rw [show copiesR l_l x ((rn : Nat) : Int) = _ from copiesR_yes hc (by omega) (by omega)]
       simp only [hog]
       exact ⟨s1, by rw [← g3]; rfl, g4, g5⟩
     ·replace hc5 := dF hc5
      iterate 4 refine Y_skip ?_
      refine Y_pick ?_
      refine XD_end ?_
      refine K_then ?_
      refine C_false rfl ?_
      refine C_exit ?_
      iterate 2 refine K_exit ?_
      refine K_hit ?_
      refine K_then ?_
      refine Y_pk [10, 7, 6] ?_
      refine C_seq ?_
      refine C_region (l := [0, 1, 2]) rfl ?_
      refine Y_move ?_
      iterate 2 refine Y_assign ?_
      refine XD_end ?_
      refine K_then ?_
      refine Y_pk [7, 6] ?_
      refine C_ret ?_
      refine K_end (.inr rfl) (.tmp rfl (.tmp rfl .nil)) (fun w hw => ?_)
      obtain rfl : k = min rn l_l.length := by omega
      obtain ⟨M9, s1, g1, g2, g3, g4, g5⟩ := OSl.freezeK (f := oneI .i64) (H := H) (l := (List.range (min rn l_l.length)).map fun k => (((o9 + k) % l_l.length : Nat) : Int)) (ho) (hw.c)
      refine ⟨_, M9, rfl, g1, g2, ?_⟩
      rw [show copiesR l_l x ((rn : Nat) : Int) = _ from copiesR_yes hc (by omega) (by omega)]
      simp only [hog]
      exact ⟨s1, by rw [← g3]; rfl, g4, g5⟩

end Go.Proofs.Ytbafnjniijodfaa
/-
  Where the first one of a list is.
-/
set_option linter.unusedSimpArgs false
set_option linter.unusedVariables false
set_option linter.unnecessarySimpa false
namespace Go.Esp
def idxF {α : Type} (p : α → Bool) (l : List α) : Int := if l.any p then (l.findIdx p : Int) else -1
theorem idxF_at {α : Type} {p : α → Bool} {l : List α} {k : Nat} (hk : k < l.length) (h1 : ∀ j (h : j < k), p (l[j]'(by omega)) = false) (h2 : p l[k] = true) : idxF p l = k := by
  unfold idxF
  rw [if_pos (List.any_eq_true.2 ⟨_, List.getElem_mem hk, h2⟩)]
  congr 1
  exact (List.findIdx_eq hk).2 ⟨h2, fun j hj => by simpa using h1 j hj⟩
theorem idxF_none {α : Type} {p : α → Bool} {l : List α} (h : ∀ j (h : j < l.length), p l[j] = false) : idxF p l = -1 := by
  unfold idxF
  rw [if_neg]
  intro ha
  obtain ⟨x, hx, hp⟩ := List.any_eq_true.1 ha
  obtain ⟨j, hj, rfl⟩ := List.getElem_of_mem hx
  rw [h j hj] at hp; cases hp
theorem idxF_nn {α : Type} {p : α → Bool} {l : List α} : decide (0 ≤ idxF p l) = l.any p := by
  unfold idxF
  by_cases h : l.any p = true
  · rw [if_pos h, h]; simp
  · rw [if_neg h]; simp at h; simp; exact h
/-! Binary search. -/
def bsP {α : Type} (cmp : α → Int) (l : List α) (j : Nat) : Bool := match l[j]? with
  | some y => decide (0 ≤ cmp y)
  | none => false
theorem bsP_at {α : Type} {cmp : α → Int} {l : List α} {j : Nat} (h : j < l.length) : bsP cmp l j = decide (0 ≤ cmp l[j]) := by unfold bsP; rw [List.getElem?_eq_getElem h]
def bsAt {α : Type} (cmp : α → Int) (l : List α) : Nat := firstP (bsP cmp l) l.length
def bsIs {α : Type} (cmp : α → Int) (l : List α) : Bool := match l[bsAt cmp l]? with
  | some y => decide (cmp y = 0)
  | none => false
theorem bsIs_lt {α : Type} {cmp : α → Int} {l : List α} {a : Nat} (ha : bsAt cmp l = a) (h : a < l.length) : bsIs cmp l = decide (cmp l[a] = 0) := by subst ha; unfold bsIs; rw [List.getElem?_eq_getElem h]
theorem bsIs_ge {α : Type} {cmp : α → Int} {l : List α} {a : Nat} (ha : bsAt cmp l = a) (h : ¬ a < l.length) : bsIs cmp l = false := by subst ha; unfold bsIs; rw [List.getElem?_eq_none (by omega)]
end Go.Esp
/-
  Cells and their marks, in plain Lean.
-/
set_option linter.unusedSimpArgs false
set_option linter.unusedVariables false
set_option linter.unnecessarySimpa false
namespace Go.Esp
structure Cel where
  version : Int
  has : Bool
  val : ByteArray
  marks : List MarkV
  deriving DecidableEq
def Cel.zero : Cel := ⟨0, false, ⟨#[]⟩, []⟩
def CellV.pl (c : CellV) : Cel := ⟨c.version, c.has, c.val, c.marks.l⟩
/-- May an answer be a mark's? -/
def AnsOk (a : AnswerV) : Prop := a.val = ⟨#[]⟩ ∧ (a.code = 0 ∨ a.code = 8)
instance (a : AnswerV) : Decidable (AnsOk a) := by unfold AnsOk; exact inferInstance
def MarkOk (m : MarkV) : Prop := (0 ≤ m.client ∧ m.client ≤ 63) ∧ AnsOk m.answer
instance (m : MarkV) : Decidable (MarkOk m) := by unfold MarkOk; exact inferInstance
def MarksOk (l : List MarkV) : Prop := (∀ m ∈ l, MarkOk m) ∧ l.Pairwise (fun x y => x.client < y.client)
instance (l : List MarkV) : Decidable (MarksOk l) := by unfold MarksOk; exact inferInstance
def ValOk (v : ByteArray) (has : Bool) : Prop := (v.size : Int) ≤ 2048 ∧ (has = true ∨ v = ⟨#[]⟩)
instance (v : ByteArray) (has : Bool) : Decidable (ValOk v has) := by unfold ValOk; exact inferInstance
def IsCel (c : Cel) : Prop := ValOk c.val c.has ∧ MarksOk c.marks
instance (c : Cel) : Decidable (IsCel c) := by unfold IsCel; exact inferInstance
theorem marks_take {l : List MarkV} {k : Nat} (hk : k < l.length) : MarksOk (l.take (k + 1)) ↔ MarksOk (l.take k) ∧ MarkOk l[k] ∧ ∀ h : 0 < k, (l[k - 1]'(by omega)).client < l[k].client := by
  have e : l.take (k + 1) = l.take k ++ [l[k]] := by rw [List.take_add_one, List.getElem?_eq_getElem hk]; rfl
  rw [e]
  unfold MarksOk
  simp only [List.mem_append, List.mem_singleton, List.pairwise_append, List.pairwise_singleton]
  constructor
  · rintro ⟨h1, h2, _, h3⟩
    refine ⟨⟨fun m hm => h1 m (.inl hm), h2⟩, h1 _ (.inr rfl), fun h => h3 _ ?_ _ rfl⟩
    rw [List.mem_take_iff_getElem]
    exact ⟨k - 1, by omega, rfl⟩
  · rintro ⟨⟨h1, h2⟩, h3, h4⟩
    refine ⟨fun m hm => ?_, h2, trivial, fun m hm q hq => ?_⟩
    · rcases hm with hm | rfl
      · exact h1 m hm
      · exact h3
    · subst hq
      rw [List.mem_take_iff_getElem] at hm
      obtain ⟨j, hj, rfl⟩ := hm
      have hjk : j < k := by omega
      have hlast := h4 (by omega)
      rcases Nat.lt_or_ge j (k - 1) with h | h
      · have := (List.pairwise_iff_getElem.1 h2) j (k - 1) (by simp; omega) (by simp; omega) h
        simp only [List.getElem_take] at this
        omega
      · have : j = k - 1 := by omega
        subst this; exact hlast
theorem marks_pre {l : List MarkV} (h : MarksOk l) (k : Nat) : MarksOk (l.take k) := ⟨fun m hm => h.1 m (List.mem_of_mem_take hm), h.2.sublist (List.take_sublist k l)⟩
/-- Does the j-th mark stand behind all of clients below c? -/
def clt (l : List MarkV) (c : Int) (j : Nat) : Bool := match l[j]? with
  | some m => decide (c ≤ m.client)
  | none => false
theorem clt_at {l : List MarkV} {c : Int} {j : Nat} (h : j < l.length) : clt l c j = decide (c ≤ l[j].client) := by unfold clt; rw [List.getElem?_eq_getElem h]
def atM (l : List MarkV) (c : Int) : Nat := firstP (clt l c) l.length
def isM (l : List MarkV) (c : Int) : Bool := match l[atM l c]? with
  | some m => decide (m.client = c)
  | none => false
theorem isM_at {l : List MarkV} {c : Int} (h : atM l c < l.length) : isM l c = decide (l[atM l c].client = c) := by unfold isM; rw [List.getElem?_eq_getElem h]
theorem isM_lt {l : List MarkV} {c : Int} (h : isM l c = true) : atM l c < l.length := by
  unfold isM at h
  split at h
  · rename_i m hm; exact (List.getElem?_eq_some_iff.1 hm).1
  · cases h
theorem atM_le (l : List MarkV) (c : Int) : atM l c ≤ l.length := (firstP_spec _ _).1
theorem clt_mono {l : List MarkV} (h : MarksOk l) {c : Int} : ∀ i j, i ≤ j → j < l.length → clt l c i = true → clt l c j = true := by
  intro i j hij hj hi
  rw [clt_at (by omega)] at hi
  rw [clt_at hj]
  simp only [decide_eq_true_eq] at *
  rcases Nat.lt_or_ge i j with h9 | h9
  · have := (List.pairwise_iff_getElem.1 h.2) i j (by omega) hj h9; omega
  · obtain rfl : i = j := by omega
    exact hi
theorem atM_bs (l : List MarkV) (c : Int) : bsAt (fun m : MarkV => m.client - c) l = atM l c := by
  unfold bsAt atM
  congr 1
  funext j
  unfold bsP clt
  cases l[j]? with
  | none => rfl
  | some m => exact decide_eq_decide.2 (show 0 ≤ m.client - c ↔ c ≤ m.client by omega)
theorem isM_bs (l : List MarkV) (c : Int) : bsIs (fun m : MarkV => m.client - c) l = isM l c := by
  unfold bsIs isM
  rw [atM_bs]
  cases l[atM l c]? with
  | none => rfl
  | some m => exact decide_eq_decide.2 (show m.client - c = 0 ↔ m.client = c by omega)
theorem marks_mono {l : List MarkV} (h : MarksOk l) {c : Int} (i j : Nat) (hi : i < l.length) (hj : j < l.length) (hij : i ≤ j) (h0 : 0 ≤ l[i].client - c) : 0 ≤ l[j].client - c := by
  rcases Nat.lt_or_ge i j with h9 | h9
  · have := (List.pairwise_iff_getElem.1 h.2) i j hi hj h9; omega
  · obtain rfl : i = j := by omega
    exact h0
/-- A mark is put in place of its client's. -/
def putM (l : List MarkV) (m : MarkV) : List MarkV := l.take (atM l m.client) ++ m :: l.drop (if isM l m.client then atM l m.client + 1 else atM l m.client)
theorem putM_is {l : List MarkV} {m : MarkV} (h : isM l m.client = true) : putM l m = l.set (atM l m.client) m := by
  unfold putM
  rw [if_pos h, List.set_eq_take_append_cons_drop, if_pos (isM_lt h)]
theorem putM_not {l : List MarkV} {m : MarkV} (h : isM l m.client = false) : putM l m = l.take (atM l m.client) ++ m :: l.drop (atM l m.client) := by
  unfold putM
  rw [if_neg (by simp [h])]
theorem putM_len (l : List MarkV) (m : MarkV) : (putM l m).length ≤ l.length + 1 := by
  have := atM_le l m.client
  unfold putM
  split <;> simp <;> omega
theorem putM_ok {l : List MarkV} (h : MarksOk l) {m : MarkV} (hm : MarkOk m) : MarksOk (putM l m) := by
  obtain ⟨g1, g2, g3⟩ := firstP_spec (clt l m.client) l.length
  have e : atM l m.client = firstP (clt l m.client) l.length := rfl
  rw [← e] at g1 g2 g3
  have hpre : ∀ x ∈ l.take (atM l m.client), x.client < m.client := fun x hx => by
    rw [List.mem_take_iff_getElem] at hx
    obtain ⟨j, hj, rfl⟩ := hx
    have := g2 j (by omega)
    rw [clt_at (by omega)] at this
    simp at this; omega
  have hpost : ∀ x ∈ l.drop (if isM l m.client then atM l m.client + 1 else atM l m.client), m.client < x.client := fun x hx => by
    obtain ⟨j, hj, rfl⟩ := List.getElem_of_mem hx
    rw [List.getElem_drop]
    rw [List.length_drop] at hj
    split at hj
    · rename_i hi
      have hlt := isM_lt hi
      have h0 : l[atM l m.client].client = m.client := by rw [isM_at hlt] at hi; simpa using hi
      simp only [hi, if_true]
      have := (List.pairwise_iff_getElem.1 h.2) (atM l m.client) (atM l m.client + 1 + j) hlt (by omega) (by omega)
      omega
    · rename_i hi
      simp only [hi, if_false, Bool.false_eq_true]
      have hlt : atM l m.client < l.length := by omega
      have h1 := g3 hlt
      rw [clt_at hlt] at h1
      have h2 : l[atM l m.client].client ≠ m.client := by rw [isM_at hlt] at hi; simpa using hi
      have h3 : m.client < l[atM l m.client].client := by simp at h1; omega
      rcases Nat.eq_zero_or_pos j with rfl | hj0
      · exact h3
      · have := (List.pairwise_iff_getElem.1 h.2) (atM l m.client) (atM l m.client + j) hlt (by omega) (by omega)
        omega
  refine ⟨fun x hx => ?_, ?_⟩
  · unfold putM at hx
    simp only [List.mem_append, List.mem_cons] at hx
    rcases hx with hx | rfl | hx
    · exact h.1 x (List.mem_of_mem_take hx)
    · exact hm
    · exact h.1 x (List.mem_of_mem_drop hx)
  · unfold putM
    rw [List.pairwise_append]
    refine ⟨h.2.sublist (List.take_sublist _ _), List.pairwise_cons.2 ⟨hpost, h.2.sublist (List.drop_sublist _ _)⟩, fun x hx y hy => ?_⟩
    have h1 := hpre x hx
    rcases List.mem_cons.1 hy with rfl | hy
    · exact h1
    · have := hpost y hy; omega
/-- A client's mark. -/
def ofM (l : List MarkV) (c : Int) : Option MarkV := l.find? fun m => decide (m.client = c)
theorem ofM_is {l : List MarkV} (h : MarksOk l) {c : Int} : ofM l c = if hi : isM l c = true then some (l[atM l c]'(isM_lt hi)) else none := by
  obtain ⟨g1, g2, g3⟩ := firstP_spec (clt l c) l.length
  have e : atM l c = firstP (clt l c) l.length := rfl
  rw [← e] at g1 g2 g3
  split
  · rename_i hi
    have hlt := isM_lt hi
    have h0 : l[atM l c].client = c := by rw [isM_at hlt] at hi; simpa using hi
    unfold ofM
    rw [List.find?_eq_some_iff_getElem]
    refine ⟨by simpa using h0, atM l c, hlt, rfl, fun j hj => ?_⟩
    have := (List.pairwise_iff_getElem.1 h.2) j (atM l c) (by omega) hlt hj
    simp; omega
  · rename_i hi
    unfold ofM
    rw [List.find?_eq_none]
    intro x hx hc
    simp only [decide_eq_true_eq] at hc
    obtain ⟨j, hj, rfl⟩ := List.getElem_of_mem hx
    rcases Nat.lt_trichotomy j (atM l c) with h9 | h9 | h9
    · have := g2 j h9
      rw [clt_at hj] at this
      simp at this; omega
    · subst h9
      apply hi
      rw [isM_at hj]; simpa using hc
    · have hlt : atM l c < l.length := by omega
      have h1 := g3 hlt
      rw [clt_at hlt] at h1
      have h2 := (List.pairwise_iff_getElem.1 h.2) (atM l c) j hlt hj h9
      simp at h1; omega
theorem ofM_first {l : List MarkV} {c : Int} {k : Nat} (hk : k < l.length) (h1 : ∀ j (h2 : j < l.length), j < k → ¬ l[j].client = c) (h3 : l[k].client = c) : ofM l c = some l[k] := by
  unfold ofM
  rw [List.find?_eq_some_iff_getElem]
  exact ⟨by simpa using h3, k, hk, rfl, fun j hj => by simpa using h1 j (by omega) hj⟩
theorem ofM_none {l : List MarkV} {c : Int} (h : ∀ j (h2 : j < l.length), ¬ l[j].client = c) : ofM l c = none := by
  unfold ofM
  rw [List.find?_eq_none]
  intro x hx
  obtain ⟨j, hj, rfl⟩ := List.getElem_of_mem hx
  simpa using h j hj
def ofX (l : List MarkV) (c : Int) : MarkV × Bool := match ofM l c with
  | some m => (m, true)
  | none => (MarkV.zero, false)
theorem ofX_none {l : List MarkV} {c : Int} {x : MarkV} (h : ofX l c = (x, false)) : ofM l c = none := by
  unfold ofX at h
  split at h
  · cases h
  · assumption
theorem ofX_some {l : List MarkV} {c : Int} {x : MarkV} (h : ofX l c = (x, true)) : ofM l c = some x := by
  unfold ofX at h
  split at h
  · rename_i m hm; rw [hm]; cases h; rfl
  · cases h
def ofXv (r : MarkV × Bool) : Value := .tuple #[r.1.enc, .bool r.2]
/-- A mark of another cell is taken over, if it is a later one. -/
def addM (a : List MarkV) (out : List MarkV) (m : MarkV) : List MarkV := match ofM a m.client with
  | some x => if x.req < m.req then putM out m else out
  | none => putM out m
def mergeM (a b : List MarkV) : List MarkV := b.foldl (addM a) a
theorem addM_ok {a out : List MarkV} {m : MarkV} (h : MarksOk out) (hm : MarkOk m) : MarksOk (addM a out m) := by
  unfold addM
  split
  · split
    · exact putM_ok h hm
    · exact h
  · exact putM_ok h hm
theorem addM_len (a out : List MarkV) (m : MarkV) : (addM a out m).length ≤ out.length + 1 := by
  unfold addM
  split
  · split
    · exact putM_len _ _
    · omega
  · exact putM_len _ _
theorem foldM_ok {a : List MarkV} : ∀ {b out : List MarkV}, MarksOk out → (∀ m ∈ b, MarkOk m) → MarksOk (b.foldl (addM a) out)
  | [], out, h, _ => h
  | m :: b, out, h, hb => by
    rw [List.foldl_cons]
    exact foldM_ok (b := b) (addM_ok h (hb m (.head _))) fun x hx => hb x (.tail _ hx)
theorem foldM_len {a : List MarkV} : ∀ {b out : List MarkV}, (b.foldl (addM a) out).length ≤ out.length + b.length
  | [], out => Nat.le_add_right _ _
  | m :: b, out => by
    have h1 := foldM_len (a := a) (b := b) (out := addM a out m)
    have h2 := addM_len a out m
    simp only [List.foldl_cons, List.length_cons]; omega
theorem foldM_step {a : List MarkV} {b out : List MarkV} {k : Nat} (hk : k < b.length) : (b.take (k + 1)).foldl (addM a) out = addM a ((b.take k).foldl (addM a) out) b[k] := by
  rw [List.take_add_one, List.getElem?_eq_getElem hk, List.foldl_append]; rfl
/-- At most so many marks may be. -/
theorem marks_len {l : List MarkV} (h : MarksOk l) : l.length ≤ 64 := by
  have key : ∀ (k : Nat) (hk : k < l.length), (k : Int) ≤ l[k].client := by
    intro k
    induction k with
    | zero => intro hk; exact (h.1 _ (List.getElem_mem hk)).1.1
    | succ k ih =>
      intro hk
      have h1 := ih (by omega)
      have h2 := (List.pairwise_iff_getElem.1 h.2) k (k + 1) (by omega) hk (by omega)
      omega
  rcases Nat.lt_or_ge 64 l.length with h9 | h9
  · have h1 := key 64 h9
    have h2 := (h.1 _ (List.getElem_mem h9)).1.2
    omega
  · exact h9
def mergeC (a b : Cel) : Cel := if a.version < b.version then ⟨b.version, b.has, b.val, mergeM a.marks b.marks⟩ else ⟨a.version, a.has, a.val, mergeM a.marks b.marks⟩
def mergeR (a b : Cel) : Cel × Int := if IsCel a ∧ IsCel b then (mergeC a b, 0) else (Cel.zero, 1)
theorem mergeC_ok {a b : Cel} (ha : IsCel a) (hb : IsCel b) : IsCel (mergeC a b) := by
  have hm : MarksOk (mergeM a.marks b.marks) := foldM_ok ha.2 hb.2.1
  unfold mergeC
  split
  · exact ⟨hb.1, hm⟩
  · exact ⟨ha.1, hm⟩
end Go.Esp
/-
  More rules: copy of a part; room behind a slice; append of zeros where there is no room; two slices in two blocks.
-/
set_option linter.unusedSimpArgs false
set_option linter.unusedVariables false
set_option linter.unnecessarySimpa false
namespace Go.Esp
/-- What lies behind a slice, as far as there is room. -/
theorem OSl.extend {T sz b c : Nat} {hs : Hp} {rows : List Segs} (h : OSl T sz (.slice (some ⟨b, 0, none⟩) rows.length c) hs rows) {m : Nat} (hm : rows.length + m ≤ c) :
    ∃ ext : List Segs, ext.length = m ∧ OSl T sz (.slice (some ⟨b, 0, none⟩) (rows.length + m) c) hs (rows ++ ext) := by
  obtain ⟨cur, rfl, _, hl, h2, h3, h4, h5⟩ := h.inv
  have key : ∀ (m off : Nat) , off + m * sz ≤ cur.size → ∃ ext : List Segs, ext.length = m ∧ Esp.lens sz ext ∧ rowsCells ext = (cur.toList.drop off).take (m * sz) := by
    intro m
    induction m with
    | zero => intro off _; exact ⟨[], rfl, fun r hr => (by cases hr), by simp [rowsCells]⟩
    | succ m ih =>
      intro off ho
      have e : (m + 1) * sz = sz + m * sz := by rw [Nat.add_mul]; omega
      obtain ⟨ext, g1, g2, g3⟩ := ih (off + sz) (by omega)
      refine ⟨ones ((cur.toList.drop off).take sz) :: ext, by simp [g1], fun r hr => ?_, ?_⟩
      · rcases List.mem_cons.1 hr with rfl | hr
        · rw [← Segs.cells_length, ones_cells, List.length_take, List.length_drop, Array.length_toList]; omega
        · exact g2 r hr
      · simp only [rowsCells, ones_cells, g3, e]
        rw [List.take_add, List.drop_drop]
  obtain ⟨ext, g1, g2, g3⟩ := key m (rows.length * sz) (by rw [h4, ← Nat.add_mul]; exact Nat.mul_le_mul_right _ hm)
  refine ⟨ext, g1, ?_⟩
  have hlen : (rows ++ ext).length = rows.length + m := by simp [g1]
  rw [← hlen]
  refine OSl.own b c (rows ++ ext) cur (hl.append g2) (by omega) h3 h4 ?_
  rw [hlen, Nat.add_mul, List.take_add, h5, ← g3, rowsCells_append]
theorem OSl.as9 {T sz : Nat} {v : Value} {hs : Hp} {rows rows' : List Segs} (h : OSl T sz v hs rows) (e : rows = rows') : OSl T sz v hs rows' := e ▸ h
section
variable {P : Program} {n : Sh} {ops : Array Oper} {Q : Exit → Act → World → Prop} {rest : List Nat} {M M' : Mem} {H H' H0 : Hp} {e : Env} {J S : World → Prop} {A : As} {i : Nat}
  {dst : Option Tmp} {d : Tmp} {op : Op} {ty : TypeId} {pos : String} {af : Array Edge} {gd : Option (Nat × Bool)}
/-- copy into a row of ours, of the first ones of a row. -/
theorem X_copyP {t t' E sz by_ : Nat} {x y : Operand} {b k l' c' l2 c2 c l off : Nat} {ad : Addr} {hs : Hp} {rows news : List Segs} {ats : Array TypeId} (hi : ops[i]? = some ⟨some d, .call ⟨.builtin .copy, #[x, y], ats⟩, ty, pos, af, gd⟩) (hg : want ops e gd = some true)
    (hx : ev e x = some (.slice (some ⟨b, off, Option.none⟩) l' c')) (hy : ev e y = some (.slice (some ad) l2 c2)) (hat : ats = #[t, t']) (ht : slOf P t = some (E, sz, by_)) (hoff : off = k * sz) (hkl : k + l' ≤ rows.length) (ho : OSl E sz (.slice (some ⟨b, 0, Option.none⟩) l c) hs rows) (hH : Rem hs H H0)
    (hsrc : Src M H sz (.slice (some ad) news.length c2) news) (hm : news.length = min l2 l') (hd : Nat.ble (d + 1) n.sz = true)
    (hk : ∀ hs', OSl E sz (.slice (some ⟨b, 0, Option.none⟩) rows.length c) hs' (rows.take k ++ news ++ rows.drop (k + news.length)) → XD P n ops Q rest (St M (hs' ++ H0)) ⟨M, hs' ++ H0⟩ ((d, .int .i64 (news.length : Int)) :: e)) (hnw : n.wrs.contains i = false := by rfl) : XD P n ops Q (i :: rest) J ⟨M, H⟩ e := by
  subst hat hoff
  refine X_mut hi rfl hg (fun a w ha hw => ?_) hnw
  obtain ⟨it, hu, hit, rfl, rfl⟩ := elemOf_spec ht
  obtain ⟨hln, h1, ad', c2', e9, hsr⟩ := hsrc
  obtain ⟨rfl, _, rfl⟩ : ad = ad' ∧ True ∧ c2 = c2' := by simpa using e9
  obtain ⟨cur, rfl, rfl, hlr, hcap, hcm, hcs, htake⟩ := ho.inv
  have hst := hw.perm hH.perm
  have hb := hst.own b _ (List.mem_append_left _ (.head _))
  have hcl : (rowsCells news).length = news.length * it.size := rowsCells_length hln
  have hle : k * it.size + news.length * it.size ≤ rows.length * it.size := by rw [← Nat.add_mul]; exact Nat.mul_le_mul_right _ (by omega)
  have hrc : rows.length * it.size ≤ c * it.size := Nat.mul_le_mul_right _ hcap
  have hload := run_loadCells_list (P := P) w ad (rowsCells news) (fun j v hj => hsr w hw j v hj)
  have hstore := run_storeCells_at P b (k * it.size) E (rowsCells news) 0 cur w hb (by omega) h1
  have ho' := rowSplice (T := E) (b := b) (k := k) (news := news) hlr hln hcap hcm hcs htake (by omega)
  rw [hcl] at hload
  have hr : (Builtin.copy_ #[t, t'] ty #[.slice (some ⟨b, k * it.size, Option.none⟩) l' c', .slice (some ad) l2 c2]).run P w = .ok (goInt news.length) (w.setRow b (cur.toList.take (k * it.size) ++ rowsCells news ++ cur.toList.drop (k * it.size + (rowsCells news).length)).toArray) := by
    have e9 : Nat.min l2 l' = news.length := hm.symm
    simp [Builtin.copy_, run_underlying hu, Builtin.lenOf, Builtin.firstCells, sizeOf, typeInfo, hit, e9, hload]
    have h5 := hstore
    simp only [Nat.add_zero, List.append_assoc] at h5
    rw [h5]; rfl
  unfold Oper.does
  have : (execOp a.eval ⟨some d, .call ⟨.builtin .copy, #[x, y], #[t, t']⟩, ty, pos, af, gd⟩).run P w = .ok (.value (.int .i64 (news.length : Int))) (w.setRow b (cur.toList.take (k * it.size) ++ rowsCells news ++ cur.toList.drop (k * it.size + (rowsCells news).length)).toArray) := by
    simp only [execOp, resolve]
    simp only [invoke, builtin]
    have e1 : #[x, y].map a.eval = #[.slice (some ⟨b, k * it.size, Option.none⟩) l' c', .slice (some ad) l2 c2] := by simp [ha.ev hx, ha.ev hy]
    rw [e1]
    rw [Sem.run_bind]
    show (Result.ok _ w).andThen _ = _
    rw [Result.andThen_ok]
    exact run_v hr
  rw [this]
  refine ⟨⟨M, _⟩, _, ?_, ha.put hd _, hk _ ho'⟩
  exact hst.upd .head (setRow_heap w b cur _ E _ hb) (fun c hc x hx => by rw [setRow_other w b c _ hc]; exact hx) (SameIO.refl _)

/-- append(s[:j], make([]T, k)...) where there is no room: a new row. -/
theorem X_appendZO {t tn E sz by_ j k c : Nat} {z : Value} {kn : IntKind} {x y : Operand} {b l : Nat} {hs : Hp} {rows : List Segs} (hi : ops[i]? = some ⟨some d, .call ⟨.builtin .append, #[x, y], #[t, tn]⟩, ty, pos, af, gd⟩) (hg : want ops e gd = some true)
    (hx : ev e x = some (.slice (some ⟨b, 0, Option.none⟩) j c)) (hy : ev e y = some (.int .i64 (k : Int))) (ht : slOf P t = some (E, sz, by_)) (htn : P.underlying tn = some (.int kn)) (hz : zeroOf P E = some z) (hzs : z.cells.size = sz) (hsz : Nat.ble 1 sz = true)
    (ho : OSl E sz (.slice (some ⟨b, 0, Option.none⟩) l c) hs rows) (hH : Rem hs H H0) (hj : j ≤ rows.length) (h0 : 0 < k) (hgr : c < j + k) (hk9 : j + k ≤ 16777216) (hkb : (j + k) * by_ ≤ 140737488355328) (hd : Nat.ble (d + 1) n.sz = true)
    (hk : ∀ (b' c' : Nat) hs' (zs : List Segs), zs.length = k → OSl E sz (.slice (some ⟨b', 0, Option.none⟩) (j + k) c') hs' (rows.take j ++ zs) → XD P n ops Q rest (St M (hs' ++ H)) ⟨M, hs' ++ H⟩ ((d, .slice (some ⟨b', 0, Option.none⟩) (j + k) c') :: e)) (hnw : n.wrs.contains i = false := by rfl) : XD P n ops Q (i :: rest) J ⟨M, H⟩ e := by
  refine X_mut hi rfl hg (fun a w ha hw => ?_) hnw
  obtain ⟨it, hu, hit, rfl, rfl⟩ := elemOf_spec ht
  have hz' : it.zero = some z := by simpa [zeroOf, hit] using hz
  have hpos : 1 ≤ it.size := Nat.le_of_ble_eq_true hsz
  obtain ⟨cur, rfl, _, hl, h2, h3, h4, h5⟩ := ho.inv
  have hst := hw.perm hH.perm
  have hb := hst.own b _ (List.mem_append_left _ (.head _))
  have hlt : Esp.lens it.size (rows.take j) := fun r hr => hl r (List.mem_of_mem_take hr)
  have hjl : (rows.take j).length = j := by simp; omega
  have hcell := rowsCells_take hl hj
  have hole : (rowsCells (rows.take j)).length = j * it.size := by rw [rowsCells_length hlt, hjl]
  have hold := run_loadCells_list (P := P) (w := w.drew) ⟨b, 0, Option.none⟩ (rowsCells (rows.take j)) (cellsAt (w := w.drew) (b := b) (off := 0) (n := j * it.size) hb (by
    rw [List.drop_zero, hcell, ← h5, List.take_take]
    congr 1
    have h6 : j * it.size ≤ rows.length * it.size := Nat.mul_le_mul_right _ hj
    omega))
  rw [hole] at hold
  have hr := Lib.run_append_grow_zeros (P := P) w t tn ty E it z .i64 kn hu htn hit hz' (some ⟨b, 0, Option.none⟩) j c (rowsCells (rows.take j)) hold k h0 hpos hgr (by omega) (by
    have : k * it.bytes ≤ (j + k) * it.bytes := Nat.mul_le_mul_right _ (by omega)
    omega) (growslice_fits hgr hkb)
  have hzsz : z.cells.size = it.size := hzs
  have hge := grownCap_ge w (j + k) c E
  have hcm : grownCap w (j + k) c E ≤ maxLen := grownCap_le_maxLen w (j + k) c E (by simp only [maxLen]; omega)
  obtain ⟨zs, hzl, hlz, hrz⟩ : ∃ zs : List Segs, zs.length = k ∧ Esp.lens it.size zs ∧ rowsCells zs = (Builtin.zeroCells z.cells k).toList := by
    refine ⟨onesAll (fun i => z.cells[i % z.cells.size]!) it.size k, by simp [onesAll], fun r hr => ?_, ?_⟩
    · obtain ⟨q, _, rfl⟩ := List.mem_map.1 hr
      exact onesOf_len _ q it.size
    · rw [onesAll_cells]; simp [Builtin.zeroCells, hzsz]
  have hlen : (rows.take j ++ zs).length = j + k := by simp [hzl]; omega
  have h0' : St M H w.drew := hw.heap rfl ⟨rfl, rfl, rfl, Nat.le_succ _⟩
  have h2' := h0'.alloc (.cells ((rowsCells (rows.take j)).toArray ++ Builtin.zeroCells z.cells k ++ Builtin.zeroCells z.cells (grownCap w (j + k) c E - (j + k))) E)
  have ho' : OSl E it.size (.slice (some ⟨w.heap.size, 0, none⟩) (j + k) (grownCap w (j + k) c E)) [(w.heap.size, .cells ((rowsCells (rows.take j)).toArray ++ Builtin.zeroCells z.cells k ++ Builtin.zeroCells z.cells (grownCap w (j + k) c E - (j + k))) E (0, 0))] (rows.take j ++ zs) := by
    rw [← hlen] at hge hcm ⊢
    refine OSl.own _ _ _ _ (hlt.append hlz) hge hcm ?_ ?_
    · simp only [Array.size_append, List.size_toArray, size_zeroCells, hzsz, hole]
      rw [hlen] at hge ⊢
      rw [← Nat.add_mul, ← Nat.add_mul]; congr 1; omega
    · simp only [Array.toList_append]
      rw [← rowsCells_length (hlt.append hlz), rowsCells_append, hrz]
      exact List.take_left
  unfold Oper.does
  have : (execOp a.eval ⟨some d, .call ⟨.builtin .append, #[x, y], #[t, tn]⟩, ty, pos, af, gd⟩).run P w = .ok (.value (.slice (some ⟨w.heap.size, 0, none⟩) (j + k) (grownCap w (j + k) c E))) (w.drew.alloc (.cells ((rowsCells (rows.take j)).toArray ++ Builtin.zeroCells z.cells k ++ Builtin.zeroCells z.cells (grownCap w (j + k) c E - (j + k))) E)) := by
    simp only [execOp, resolve]
    simp only [invoke, builtin]
    have e1 : #[x, y].map a.eval = #[.slice (some ⟨b, 0, Option.none⟩) j c, .int .i64 (k : Int)] := by simp [ha.ev hx, ha.ev hy]
    rw [e1]
    rw [Sem.run_bind]
    show (Result.ok _ w).andThen _ = _
    rw [Result.andThen_ok]
    exact run_v hr
  rw [this]
  exact ⟨⟨M, _⟩, _, h2', ha.put hd _, hk _ _ _ zs hzl ho'⟩
/-- A slice of ours and a row of one in another block do not overlap. -/
theorem run_apart {tS tR E sz by_ b b' l c k lb cb la ca : Nat} {hs : Hp} {rows : List Segs} {cur : Array Value} {T : TypeId} {w : World} (ht : slOf P tS = some (E, sz, by_)) (ho : OSl E sz (.slice (some ⟨b, 0, Option.none⟩) l c) hs rows) (hH : Rem hs H H0) (hv : (b', .cells cur T (0, 0)) ∈ H0) (hpos : 0 < c * sz) (hw : St M H w) :
    (Extern.SlicesOverlaps.overlaps #[tS, tS] #[tR] #[.slice (some ⟨b', 0, Option.none⟩) la ca, .slice (some ⟨b, k, Option.none⟩) lb cb]).run P w = .ok (.bool false) w := by
  obtain ⟨it, hu, hit, rfl, rfl⟩ := elemOf_spec ht
  obtain ⟨cu, rfl, _, hl, h2, h3, h4, h5⟩ := ho.inv
  have hst := hw.perm hH.perm
  have hb := hst.own b _ (List.mem_append_left _ (.head _))
  have hb' := hst.own b' _ (List.mem_append_right _ hv)
  have hne : b' ≠ b := fun e => by
    subst e
    have h := hst.nodup
    rw [List.map_append, List.nodup_append] at h
    exact h.2.2 b' (by simp) b' (List.mem_map_of_mem hv) rfl
  refine Lib.run_overlaps_apart w tS tR E hu it.size (fun w => run_sizeOf' hit) ⟨b', 0, Option.none⟩ ⟨b, k, Option.none⟩ la ca lb cb hne T E cur.size cu.size ?_ ?_ (by omega) ?_ ?_
  · simp [World.shape?, hb']
  · simp [World.shape?, hb]
  · simp [World.frozen?, hb']
  · simp [World.frozen?, hb']
end
theorem Fs.foE {P : Program} {f : FuncId} {vs : List Value} {M : Mem} {R : Value → Prop} (h : Fs P f vs M R) (Hin : Hp) : Fo P f vs M Hin (fun M' v => M' = M ∧ R v) := fun H w hw =>
  (h (Hin ++ H) w hw).mono fun _ _ ⟨v, he, hs, hr⟩ => ⟨v, M, he, Mem.le.refl M, hs, rfl, hr⟩
end Go.Esp
