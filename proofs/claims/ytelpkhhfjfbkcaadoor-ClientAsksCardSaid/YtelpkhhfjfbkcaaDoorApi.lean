/-
  Places on the ring as numbers below 2^160; slices with their address; arrays of small numbers, cell by cell.
-/
import Derived.Test.YtelpkhhfjfbkcaaDoorRules4
set_option linter.unusedSimpArgs false
set_option linter.unusedVariables false
set_option linter.unnecessarySimpa false
namespace Go.Esp

/-- A place on the ring. -/
abbrev Plc := BitVec 160

/-- The i-th byte, the highest one first. -/
def idB (x : Plc) (i : Nat) : Nat := x.toNat / 256 ^ (19 - i) % 256
/-- Its cells from the i-th on. (By a measure, so that nothing looks into it by itself.) -/
def idL (x : Plc) (i : Nat) : List Value := if i < 20 then .int .u8 (idB x i) :: idL x (i + 1) else []
termination_by 20 - i

theorem idL_eq (x : Plc) : ∀ (m i : Nat), i + m = 20 → idL x i = (List.range' i m).map fun i => Value.int .u8 (idB x i)
  | 0, i, h => by rw [idL, if_neg (by omega)]; rfl
  | m + 1, i, h => by rw [idL, if_pos (by omega), idL_eq x m (i + 1) (by omega), List.range'_succ]; rfl

theorem idL_len (x : Plc) : (idL x 0).toArray.size = 20 := by rw [idL_eq x 20 0 rfl]; simp

def idV (x : Plc) : Vector Value 20 := ⟨(idL x 0).toArray, idL_len x⟩
def idSeg (x : Plc) : Seg := .arr 20 (idV x)

theorem idV_list (x : Plc) : (idV x).toList = (List.range 20).map fun i => Value.int .u8 (idB x i) := by
  show idL x 0 = _
  rw [idL_eq x 20 0 rfl, List.range_eq_range']

theorem idB_lt (x : Plc) (i : Nat) : idB x i < 256 := Nat.mod_lt _ (by decide)

theorem idV_get (x : Plc) {i : Nat} (h : i < 20) : (idV x)[i] = .int .u8 (idB x i) := by
  have e : (idV x).toList[i]'(by simpa using h) = .int .u8 (idB x i) := by
    simp only [idV_list]
    simp
  simpa using e

theorem idSeg0 : idSeg 0 = .arr 20 (Vector.replicate 20 (.int .u8 0)) := by
  unfold idSeg
  congr 1
  apply Vector.ext
  intro i hi
  rw [idV_get _ hi, Vector.getElem_replicate]
  simp [idB]

/-- The number of bytes, the highest one first. -/
def ofB : Nat → (Nat → Nat) → Nat
  | 0, _ => 0
  | n + 1, f => 256 * ofB n f + f n

theorem ofB_congr {f g : Nat → Nat} : ∀ {n : Nat}, (∀ i, i < n → f i = g i) → ofB n f = ofB n g
  | 0, _ => rfl
  | n + 1, h => by simp only [ofB, ofB_congr (fun i hi => h i (Nat.lt_succ_of_lt hi)), h n (Nat.lt_succ_self n)]

theorem ofB_lt {f : Nat → Nat} (hf : ∀ i, f i < 256) : ∀ n, ofB n f < 256 ^ n
  | 0 => by simp [ofB]
  | n + 1 => by
    have := ofB_lt hf n
    have := hf n
    rw [Nat.pow_succ]
    simp only [ofB]
    omega

theorem ofB_div (x : Nat) : ∀ n k, ofB n (fun i => x / 256 ^ (n - 1 - i + k) % 256) = x / 256 ^ k % 256 ^ n
  | 0, k => by simp [ofB, Nat.mod_one]
  | n + 1, k => by
    have e : ofB n (fun i => x / 256 ^ (n + 1 - 1 - i + k) % 256) = ofB n (fun i => x / 256 ^ (n - 1 - i + (k + 1)) % 256) :=
      ofB_congr fun i hi => by rw [show n + 1 - 1 - i + k = n - 1 - i + (k + 1) by omega]
    simp only [ofB]
    rw [e, ofB_div x n (k + 1), show n + 1 - 1 - n + k = k by omega, Nat.pow_succ 256 n, Nat.mul_comm (256 ^ n) 256, Nat.mod_mul, Nat.pow_succ 256 k, Nat.div_div_eq_div_mul]
    omega

theorem idB_toNat (x : Plc) : ofB 20 (idB x) = x.toNat := by
  have := ofB_div x.toNat 20 0
  have h : x.toNat < 256 ^ 20 := x.isLt
  rw [Nat.pow_zero, Nat.div_one, Nat.mod_eq_of_lt h] at this
  rw [← this]
  exact ofB_congr fun i hi => by unfold idB; rw [show 20 - 1 - i + 0 = 19 - i by omega]

/-- The place of twenty bytes. -/
def ofBytes (f : Nat → Nat) : Plc := BitVec.ofNat 160 (ofB 20 f)

theorem ofB_byte {f : Nat → Nat} (hf : ∀ i, f i < 256) : ∀ (n i : Nat), i < n → ofB n f / 256 ^ (n - 1 - i) % 256 = f i
  | 0, i, h => by omega
  | n + 1, i, h => by
    rcases Nat.lt_or_ge i n with hi | hi
    · have ih := ofB_byte hf n i hi
      rw [← ih, show n + 1 - 1 - i = (n - 1 - i) + 1 by omega, Nat.pow_succ, Nat.mul_comm (256 ^ _) 256, ← Nat.div_div_eq_div_mul]
      have := hf n
      simp only [ofB]
      rw [show (256 * ofB n f + f n) / 256 = ofB n f by omega]
    · obtain rfl : i = n := by omega
      have := hf i
      simp only [ofB, Nat.add_sub_cancel, Nat.sub_self, Nat.pow_zero, Nat.div_one]
      omega

theorem idB_ofBytes {f : Nat → Nat} (hf : ∀ i, f i < 256) {i : Nat} (h : i < 20) : idB (ofBytes f) i = f i := by
  unfold idB ofBytes
  rw [BitVec.toNat_ofNat, Nat.mod_eq_of_lt (ofB_lt hf 20), show 19 - i = 20 - 1 - i by omega]
  exact ofB_byte hf 20 i h

theorem idV_inj {x y : Plc} : idV x = idV y ↔ x = y := by
  constructor
  · intro h
    apply BitVec.eq_of_toNat_eq
    rw [← idB_toNat x, ← idB_toNat y]
    refine ofB_congr fun i hi => ?_
    have e : (idV x)[i] = (idV y)[i] := by rw [h]
    rw [idV_get x hi, idV_get y hi] at e
    have := (Value.int.inj e).2
    omega
  · rintro rfl; rfl

theorem idList_inj {x y : Plc} : (idV x).toList = (idV y).toList ↔ x = y := by
  rw [← idV_inj, Vector.toList_inj]

theorem id_app {x y : Plc} {r s : List Value} : (idV x).toList ++ r = (idV y).toList ++ s ↔ x = y ∧ r = s := by
  constructor
  · intro h
    have := List.append_inj h (by simp)
    exact ⟨idList_inj.1 this.1, this.2⟩
  · rintro ⟨rfl, rfl⟩; rfl

/-- Twenty bytes that are read. -/
theorem idV_of {v : Vector Value 20} (h : ∀ i (h : i < 20), ∃ z, v[i] = .int .u8 z ∧ (Lit.int .u8 z).wf = true) : ∃ x : Plc, v = idV x := by
  have h' : ∀ i, ∃ z : Nat, z < 256 ∧ ∀ h : i < 20, v[i] = .int .u8 z := by
    intro i
    by_cases hi : i < 20
    · obtain ⟨z, h1, h2⟩ := h i hi
      have h3 : 0 ≤ z ∧ z < 256 := by
        simp only [Lit.wf, Bool.and_eq_true, decide_eq_true_eq] at h2
        have e1 : IntKind.min .u8 = 0 := by decide
        have e2 : IntKind.max .u8 = 255 := by decide
        omega
      refine ⟨z.toNat, by omega, fun _ => ?_⟩
      rw [h1, Int.toNat_of_nonneg h3.1]
    · exact ⟨0, by decide, fun h => (hi h).elim⟩
  refine ⟨ofBytes fun i => (h' i).choose, ?_⟩
  apply Vector.ext
  intro i hi
  rw [idV_get _ hi, idB_ofBytes (fun i => (h' i).choose_spec.1) hi]
  exact (h' i).choose_spec.2 hi

theorem idFits {ks : List Kd} {vs : List Value} (x : Plc) (h : Fits ks vs) :
    Fits (.i .u8 :: .i .u8 :: .i .u8 :: .i .u8 :: .i .u8 :: .i .u8 :: .i .u8 :: .i .u8 :: .i .u8 :: .i .u8 :: .i .u8 :: .i .u8 :: .i .u8 :: .i .u8 :: .i .u8 :: .i .u8 :: .i .u8 :: .i .u8 :: .i .u8 :: .i .u8 :: ks) ((idV x).toList ++ vs) := by
  rw [idV_list]
  exact ⟨rfl, rfl, rfl, rfl, rfl, rfl, rfl, rfl, rfl, rfl, rfl, rfl, rfl, rfl, rfl, rfl, rfl, rfl, rfl, rfl, h⟩

theorem id_oneCell {x : Plc} {u : Value} (h : u ∈ (idV x).toList) : u.oneCell' = true := by
  rw [idV_list] at h
  obtain ⟨i, _, rfl⟩ := List.mem_map.1 h
  rfl

/-- A slice's elements, and where they lie. -/
structure Sl (α : Type) where
  a : Option Addr
  cap : Nat
  l : List α

def Sl.val {α : Type} : Sl α → Value
  | ⟨a, c, l⟩ => .slice a l.length c
theorem Sl.val_eq {α : Type} (s : Sl α) : s.val = .slice s.a s.l.length s.cap := rfl
theorem Sl.one {α : Type} (s : Sl α) : s.val.oneCell' = true := rfl
def oneI (k : IntKind) (z : Int) : Segs := [.one (.int k z)]
def oneS (s : ByteArray) : Segs := [.one (.string s)]

theorem flat_nil : flat [] := fun u hu => by cases hu
theorem flat_one {v : Value} {r : Segs} (h : v.oneCell' = true) (hr : flat r) : flat (.one v :: r) := fun u hu => by
  rcases List.mem_cons.1 (show u ∈ v :: Segs.cells r from hu) with rfl | hu
  · exact h
  · exact hr u hu
theorem flat_id {x : Plc} {r : Segs} (hr : flat r) : flat (idSeg x :: r) := fun u hu => by
  rcases List.mem_append.1 (show u ∈ (idV x).toList ++ Segs.cells r from hu) with hu | hu
  · exact id_oneCell hu
  · exact hr u hu

theorem cells_one {u v : Value} {r s : Segs} : Segs.cells (.one u :: r) = Segs.cells (.one v :: s) ↔ u = v ∧ Segs.cells r = Segs.cells s := by
  show u :: Segs.cells r = v :: Segs.cells s ↔ _
  exact List.cons_eq_cons
theorem cells_id {x y : Plc} {r s : Segs} : Segs.cells (idSeg x :: r) = Segs.cells (idSeg y :: s) ↔ x = y ∧ Segs.cells r = Segs.cells s := by
  show (idV x).toList ++ Segs.cells r = (idV y).toList ++ Segs.cells s ↔ _
  exact id_app
theorem cells_id1 {x y : Plc} : Segs.cells [idSeg x] = Segs.cells [idSeg y] ↔ x = y := by rw [cells_id]; simp
theorem fit_nil : Fits [] (Segs.cells []) := trivial
theorem fit_one {k : Kd} {v : Value} {ks : List Kd} {r : Segs} (h : Fit k v) (hr : Fits ks (Segs.cells r)) : Fits (k :: ks) (Segs.cells (.one v :: r)) := ⟨h, hr⟩
theorem fit_id {x : Plc} {ks : List Kd} {r : Segs} (hr : Fits ks (Segs.cells r)) :
    Fits (.i .u8 :: .i .u8 :: .i .u8 :: .i .u8 :: .i .u8 :: .i .u8 :: .i .u8 :: .i .u8 :: .i .u8 :: .i .u8 :: .i .u8 :: .i .u8 :: .i .u8 :: .i .u8 :: .i .u8 :: .i .u8 :: .i .u8 :: .i .u8 :: .i .u8 :: .i .u8 :: ks) (Segs.cells (idSeg x :: r)) := idFits x hr

theorem eqD {c : Bool} {p q : Prop} [Decidable q] (h : c = true ↔ p) (h2 : p ↔ q) : c = decide q := by
  by_cases hq : q <;> cases c <;> simp_all
theorem neD {c : Bool} {p q : Prop} [Decidable q] (h : c = true ↔ ¬ p) (h2 : p ↔ q) : c = !decide q := by
  by_cases hq : q <;> cases c <;> simp_all

theorem rows_mapP {α : Type} {f : α → Segs} {p : α → Prop} : ∀ {rows : List Segs}, (∀ r ∈ rows, ∃ x, r = f x ∧ p x) → ∃ l : List α, rows = l.map f ∧ ∀ x ∈ l, p x
  | [], _ => ⟨[], rfl, fun _ h => (by cases h)⟩
  | r :: rows, h => by
    obtain ⟨x, hx, hp⟩ := h r (.head _)
    obtain ⟨l, hl, hq⟩ := rows_mapP (fun r hr => h r (.tail _ hr))
    refine ⟨x :: l, by simp [hx, hl], fun y hy => ?_⟩
    rcases List.mem_cons.1 hy with rfl | hy
    · exact hp
    · exact hq y hy
end Go.Esp
