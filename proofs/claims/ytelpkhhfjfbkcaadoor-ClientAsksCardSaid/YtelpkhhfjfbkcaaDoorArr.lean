/-
  Arrays cell by cell; division, bits, shifts, conversions of integers; functions of the library that have no body.
-/
import Derived.Test.YtelpkhhfjfbkcaaDoorApi
set_option linter.unusedSimpArgs false
set_option linter.unusedVariables false
set_option linter.unnecessarySimpa false
namespace Go.Esp

/-- An array's length and element, where an element has one cell. -/
def arOf (P : Program) (t : TypeId) : Option (Nat × TypeId) := match P.underlying t with
  | some (.array k el) => match P.info? el with
    | some i => if i.size = 1 then some (k, el) else none
    | none => none
  | _ => none

theorem arOf_spec {P : Program} {t el k : Nat} (h : arOf P t = some (k, el)) : ∃ i, P.underlying t = some (.array k el) ∧ P.info? el = some i ∧ i.size = 1 := by
  unfold arOf at h
  split at h
  · rename_i k' el' hu
    split at h
    · rename_i i hi
      split at h
      · rename_i h1
        cases h
        exact ⟨i, hu, hi, h1⟩
      · cases h
    · cases h
  · cases h

section
variable {P : Program} {n : Sh} {ops : Array Oper} {Q : Exit → Act → World → Prop} {rest : List Nat} {M M' : Mem} {H H' H0 : Hp} {e : Env} {J S : World → Prop} {A : As} {i : Nat}
  {dst : Option Tmp} {d : Tmp} {op : Op} {ty : TypeId} {pos : String} {af : Array Edge} {gd : Option (Nat × Bool)}

/-! ### Integers -/

theorem X_quo {t t' : TypeId} {x y : Operand} {k : IntKind} {a b r : Int} (hi : ops[i]? = some ⟨some d, .binOp .quo t x y t', ty, pos, af, gd⟩) (hg : want ops e gd = some true)
    (hx : ev e x = some (.int k a)) (hy : ev e y = some (.int k b)) (hb : b ≠ 0) (hr : k.wrap (a.tdiv b) = r) (hd : Nat.ble (d + 1) n.sz = true)
    (hk : XD P n ops Q rest J A ((d, .int k r) :: e)) : XD P n ops Q (i :: rest) J A e := by
  refine X_pure hi rfl hg (fun a' w ha => runs_of ?_) (fun a ha => ha.put hd _) hk
  simp only [execOp, ha.ev hx, ha.ev hy]
  refine run_v ?_
  subst hr
  rw [Sem.run_bind]
  simp [eqGuard, binOp, Op.intDiv, hb]

theorem X_rem {t t' : TypeId} {x y : Operand} {k : IntKind} {a b r : Int} (hi : ops[i]? = some ⟨some d, .binOp .rem t x y t', ty, pos, af, gd⟩) (hg : want ops e gd = some true)
    (hx : ev e x = some (.int k a)) (hy : ev e y = some (.int k b)) (hb : b ≠ 0) (hr : a.tmod b = r) (hd : Nat.ble (d + 1) n.sz = true)
    (hk : XD P n ops Q rest J A ((d, .int k r) :: e)) : XD P n ops Q (i :: rest) J A e := by
  refine X_pure hi rfl hg (fun a' w ha => runs_of ?_) (fun a ha => ha.put hd _) hk
  simp only [execOp, ha.ev hx, ha.ev hy]
  refine run_v ?_
  subst hr
  rw [Sem.run_bind]
  simp [eqGuard, binOp, Op.intDiv, hb]

def bitsK : BinOp → (k : IntKind) → Int → Int → Option Int
  | .and, k, a, b => some (k.wrap (BitVec.ofInt k.bits a &&& BitVec.ofInt k.bits b).toNat)
  | .or, k, a, b => some (k.wrap (BitVec.ofInt k.bits a ||| BitVec.ofInt k.bits b).toNat)
  | .xor, k, a, b => some (k.wrap (BitVec.ofInt k.bits a ^^^ BitVec.ofInt k.bits b).toNat)
  | .andNot, k, a, b => some (k.wrap (BitVec.ofInt k.bits a &&& ~~~BitVec.ofInt k.bits b).toNat)
  | _, _, _, _ => none

theorem X_bits {o : BinOp} {t t' : TypeId} {x y : Operand} {k : IntKind} {a b z r : Int} (hi : ops[i]? = some ⟨some d, .binOp o t x y t', ty, pos, af, gd⟩) (hg : want ops e gd = some true)
    (hx : ev e x = some (.int k a)) (hy : ev e y = some (.int k b)) (hc : bitsK o k a b = some z) (hr : z = r) (hd : Nat.ble (d + 1) n.sz = true)
    (hk : XD P n ops Q rest J A ((d, .int k r) :: e)) : XD P n ops Q (i :: rest) J A e := by
  have hcl : clOf P (.binOp o t x y t') = .pure := by cases o <;> first | rfl | (cases hc; done)
  refine X_pure hi hcl hg (fun a' w ha => runs_of ?_) (fun a ha => ha.put hd _) hk
  simp only [execOp, ha.ev hx, ha.ev hy]
  refine run_v ?_
  subst hr
  cases o <;> simp only [bitsK, Option.some.injEq] at hc <;> first
    | (cases hc; done)
    | (subst hc; rw [Sem.run_bind]; simp [eqGuard, binOp, Op.intBits]; done)

def shiftK : BinOp → (k : IntKind) → Int → Int → Option Int
  | .shl, k, a, b => some (k.wrap (a * 2 ^ (min b.toNat k.bits)))
  | .shr, k, a, b => some (a.fdiv (2 ^ (min b.toNat k.bits)))
  | _, _, _, _ => none

theorem X_shift {o : BinOp} {t t' : TypeId} {x y : Operand} {k k' : IntKind} {a b z r : Int} (hi : ops[i]? = some ⟨some d, .binOp o t x y t', ty, pos, af, gd⟩) (hg : want ops e gd = some true)
    (hx : ev e x = some (.int k a)) (hy : ev e y = some (.int k' b)) (hb : 0 ≤ b) (hc : shiftK o k a b = some z) (hr : z = r) (hd : Nat.ble (d + 1) n.sz = true)
    (hk : XD P n ops Q rest J A ((d, .int k r) :: e)) : XD P n ops Q (i :: rest) J A e := by
  have hcl : clOf P (.binOp o t x y t') = .pure := by cases o <;> first | rfl | (cases hc; done)
  refine X_pure hi hcl hg (fun a' w ha => runs_of ?_) (fun a ha => ha.put hd _) hk
  simp only [execOp, ha.ev hx, ha.ev hy]
  refine run_v ?_
  subst hr
  have hb' : ¬ b < 0 := by omega
  cases o <;> simp only [shiftK, Option.some.injEq] at hc <;> first
    | (cases hc; done)
    | (subst hc; rw [Sem.run_bind]; simp [eqGuard, binOp, Op.shift, hb']; done)

theorem shr_lit {k : IntKind} {z : Int} (m : Nat) (hm : m ≤ k.bits) : shiftK .shr k z (m : Int) = some (z / 2 ^ m) := by
  simp only [shiftK, Int.toNat_natCast, Nat.min_eq_left hm]
  rw [Int.fdiv_eq_ediv_of_nonneg _ (Int.pow_nonneg (by decide))]

theorem X_conv {s t : TypeId} {x : Operand} {k q : IntKind} {k' : IntKind} {a r : Int} (hi : ops[i]? = some ⟨some d, .convert s t x, ty, pos, af, gd⟩) (hg : want ops e gd = some true)
    (hx : ev e x = some (.int k' a)) (hs : P.underlying s = some (.int q)) (ht : P.underlying t = some (.int k)) (hr : k.wrap a = r) (hd : Nat.ble (d + 1) n.sz = true)
    (hk : XD P n ops Q rest J A ((d, .int k r) :: e)) : XD P n ops Q (i :: rest) J A e := by
  have hcl : clOf P (.convert s t x) = .pure := by simp [clOf, hs, ht]
  refine X_pure hi hcl hg (fun a' w ha => runs_of ?_) (fun a ha => ha.put hd _) hk
  simp only [execOp, ha.ev hx]
  refine run_v ?_
  unfold convert
  rw [run_bind_ok (run_underlying' hs), run_bind_ok (run_underlying' ht)]
  subst hr
  cases q <;> cases k <;> rfl

theorem X_compl {t : TypeId} {x : Operand} {k : IntKind} {a z r : Int} (hi : ops[i]? = some ⟨some d, .unOp .xor t x, ty, pos, af, gd⟩) (hg : want ops e gd = some true)
    (hx : ev e x = some (.int k a)) (hc : bitsK .xor k (if k.signed then -1 else k.max) a = some z) (hr : z = r) (hd : Nat.ble (d + 1) n.sz = true)
    (hk : XD P n ops Q rest J A ((d, .int k r) :: e)) : XD P n ops Q (i :: rest) J A e := by
  refine X_pure hi rfl hg (fun a' w ha => runs_of ?_) (fun a ha => ha.put hd _) hk
  simp only [execOp, ha.ev hx]
  refine run_v ?_
  subst hr
  simp only [bitsK, Option.some.injEq] at hc
  subst hc
  simp [Op.unary, Op.intBits]

theorem X_neg {t : TypeId} {x : Operand} {k : IntKind} {a r : Int} (hi : ops[i]? = some ⟨some d, .unOp .neg t x, ty, pos, af, gd⟩) (hg : want ops e gd = some true)
    (hx : ev e x = some (.int k a)) (hr : k.wrap (0 - a) = r) (hd : Nat.ble (d + 1) n.sz = true)
    (hk : XD P n ops Q rest J A ((d, .int k r) :: e)) : XD P n ops Q (i :: rest) J A e := by
  refine X_pure hi rfl hg (fun a' w ha => runs_of ?_) (fun a ha => ha.put hd _) hk
  simp only [execOp, ha.ev hx]
  refine run_v ?_
  subst hr
  simp [Op.unary, Op.intArith]

def w64 (z : Int) : Int := z % 18446744073709551616
def w32 (z : Int) : Int := z % 4294967296
def w8 (z : Int) : Int := z % 256
theorem wrap_u64 (z : Int) : IntKind.wrap .u64 z = w64 z := by unfold w64 IntKind.wrap; simp [IntKind.bits, IntKind.signed]
theorem wrap_u32 (z : Int) : IntKind.wrap .u32 z = w32 z := by unfold w32 IntKind.wrap; simp [IntKind.bits, IntKind.signed]
theorem wrap_u8 (z : Int) : IntKind.wrap .u8 z = w8 z := by unfold w8 IntKind.wrap; simp [IntKind.bits, IntKind.signed]

theorem wrap_u64_in {k : IntKind} {z : Int} (hk : k = .u64) (h : 0 ≤ z ∧ z ≤ 18446744073709551615) : k.wrap z = z := by subst hk; rw [wrap_u64]; unfold w64; omega
theorem wrap_u32_in {k : IntKind} {z : Int} (hk : k = .u32) (h : 0 ≤ z ∧ z ≤ 4294967295) : k.wrap z = z := by subst hk; rw [wrap_u32]; unfold w32; omega
theorem wrap_u8_in {k : IntKind} {z : Int} (hk : k = .u8) (h : 0 ≤ z ∧ z ≤ 255) : k.wrap z = z := by subst hk; rw [wrap_u8]; unfold w8; omega
theorem rem_nn {a b : Int} (h : 0 ≤ a) : a.tmod b = a % b := Int.tmod_eq_emod_of_nonneg h
theorem quo_in {k : IntKind} {a b : Int} (hk : k = .i64) (h : 0 ≤ a) (hb : 0 < b) (hm : a ≤ 9223372036854775807) : k.wrap (a.tdiv b) = a / b := by
  rw [Int.tdiv_eq_ediv_of_nonneg h]
  have h1 : 0 ≤ a / b := Int.ediv_nonneg h (by omega)
  have h2 : a / b ≤ a := Int.ediv_le_self _ h
  exact wrap_in hk (by omega)

/-! ### Arrays -/

theorem X_indexAddr_arr {t el b off len k : Nat} {x ix : Operand} {q : IntKind} {z : Int} (hi : ops[i]? = some ⟨some d, .indexAddr t x ix, ty, pos, af, gd⟩) (hg : want ops e gd = some true)
    (hx : ev e x = some (.pointer (some ⟨b, off, none⟩))) (hix : ev e ix = some (.int q z)) (ht : arOf P t = some (len, el)) (hz : z = (k : Int)) (hk : k < len) (hd : Nat.ble (d + 1) n.sz = true)
    (hK : XD P n ops Q rest J A ((d, .pointer (some ⟨b, off + k, none⟩)) :: e)) : XD P n ops Q (i :: rest) J A e :=
  X_pure hi rfl hg (fun a' w hA => runs_of (by
    simp only [execOp, hA.ev hx, hA.ev hix]
    refine run_v ?_
    obtain ⟨it, hu, hit, h1⟩ := arOf_spec ht
    subst hz
    simp [Instr.indexAt, asIntOf, run_underlying hu, sizeOf, typeInfo, hit, hk, h1, Instr.sureAddr, Addr.add_lit])) (fun a ha => ha.put hd _) hK

theorem drop_take_one {l : List Value} {j : Nat} {v : Value} (h : l[j]? = some v) : (l.drop j).take 1 = [v] := by
  obtain ⟨hj, rfl⟩ := List.getElem?_eq_some_iff.1 h
  rw [List.drop_eq_getElem_cons hj]; rfl

/-- A load of one cell. -/
theorem X_load_cell {t : TypeId} {x : Operand} {b j : Nat} {r : Segs} {T : TypeId} {v : Value} {MJ : Mem} {HJ : Hp} (hi : ops[i]? = some ⟨some d, .load t x, ty, pos, af, gd⟩) (hg : want ops e gd = some true)
    (hx : ev e x = some (.pointer (some ⟨b, j, none⟩))) (hb : (b, rowO r T) ∈ HJ) (hl : lay P t = some (false, 1)) (hv : (Segs.cells r)[j]? = some v)
    (hd : Nat.ble (d + 1) n.sz = true) (hk : XD P n ops Q rest (St MJ HJ) A ((d, v) :: e)) : XD P n ops Q (i :: rest) (St MJ HJ) A e :=
  X_read hi rfl hg (fun a' w ha hw => runs_of (by
    simp only [execOp, ha.ev hx]
    exact run_v (run_loadAt' (r := [.one v]) (hw.own _ _ hb) hl (by rw [List.toList_toArray]; exact drop_take_one hv) rfl rfl))) (fun a ha => ha.put hd _) hk

theorem run_storeCell {b j : Nat} {T t : TypeId} {r u : Segs} {v : Value} {w : World} (hb : w.heap[b]? = some (rowO r T)) (hl : lay P t = some (false, 1)) (hc : v.cells = #[v]) (h1 : v.oneCell' = true)
    (hj : j < (Segs.cells r).length) (hu : Segs.cells u = (Segs.cells r).set j v) :
    ∃ w', (Instr.storeAt t (.pointer (some ⟨b, j, none⟩)) v).run P w = .ok () w' ∧ w'.heap[b]? = some (rowO u T) ∧ (∀ c, c ≠ b → w'.heap[c]? = w.heap[c]?) ∧ SameIO w w' := by
  obtain ⟨d, i, hd, hi, hsz, hag⟩ := lay_spec hl
  have hst := run_storeCells_at P b j T [v] 0 (Segs.cells r).toArray w hb (by simp; omega) (fun x hx => by simp at hx; subst hx; exact h1)
  refine ⟨w.setRow b (Segs.cells u).toArray, ?_, setRow_heap w b _ _ T _ hb, fun c hc => setRow_other w b c _ hc, SameIO.refl _⟩
  unfold Instr.storeAt
  rw [Sem.run_bind]
  show (Result.ok _ w).andThen _ = _
  rw [Result.andThen_ok]
  unfold storeVar
  rw [Sem.run_bind, run_sizeOf' hi, Result.andThen_ok]
  have hs : v.cells.size = i.size := by rw [hc, hsz]; rfl
  simp only [hs, ne_eq, not_true_eq_false, if_false]
  rw [hc]
  have e1 : (Segs.cells u).toArray = (Segs.cells r).toArray.setIfInBounds j v := by rw [hu]; simp
  rw [e1]
  have e2 : (Segs.cells r).toArray.setIfInBounds j v = (List.take j (Segs.cells r) ++ v :: List.drop (j + 1) (Segs.cells r)).toArray := by
    apply Array.ext'
    simp only [Array.toList_setIfInBounds]
    rw [List.set_eq_take_append_cons_drop, if_pos hj]
  rw [e2]
  simpa using hst

theorem X_store_cell {t : TypeId} {x y : Operand} {b j : Nat} {r u : Segs} {T : TypeId} {v : Value} (hi : ops[i]? = some ⟨none, .store t x y, ty, pos, af, gd⟩) (hg : want ops e gd = some true)
    (hx : ev e x = some (.pointer (some ⟨b, j, none⟩))) (hy : ev e y = some v) (hc : v.cells = #[v]) (h1 : v.oneCell' = true) (hu : Upd b (rowO r T) (rowO u T) H H') (hl : lay P t = some (false, 1)) (hj : j < (Segs.cells r).length) (hs : Segs.cells u = (Segs.cells r).set j v)
    (hk : XD P n ops Q rest (St M H') ⟨M, H'⟩ e) (hnw : n.wrs.contains i = false := by rfl) : XD P n ops Q (i :: rest) J ⟨M, H⟩ e := by
  refine X_mut hi rfl hg (fun a w ha hw => ?_) hnw
  obtain ⟨w', h1, h2, h3, h4⟩ := run_storeCell (P := P) (hw.own _ _ hu.mem) hl hc h1 hj hs
  unfold Oper.does
  have : (execOp a.eval ⟨none, .store t x y, ty, pos, af, gd⟩).run P w = .ok .skip w' := by
    simp only [execOp, ha.ev hx, ha.ev hy]
    rw [run_bind_ok h1]; rfl
  rw [this]
  exact ⟨⟨M, H'⟩, e, hw.upd hu h2 (fun c hc z hz => by rw [h3 c hc]; exact hz) h4, ha, hk⟩

theorem arr_cells {m : Nat} (f : Vector Value m) : Segs.cells [.arr m f] = f.toList := by simp [Segs.cells, Seg.cells]
theorem arr_at {m j : Nat} {f : Vector Value m} (h : j < m) : (Segs.cells [.arr m f])[0 + j]? = some f[j] := by
  rw [arr_cells, Nat.zero_add, List.getElem?_eq_getElem (by simpa using h)]; simp
theorem arr_set {m j : Nat} {f : Vector Value m} {v : Value} (h : j < m) : Segs.cells [.arr m (f.set j v h)] = (Segs.cells [.arr m f]).set (0 + j) v := by
  rw [arr_cells, arr_cells, Nat.zero_add, Vector.toList_set]
theorem arr_len {m j : Nat} {f : Vector Value m} (h : j < m) : 0 + j < (Segs.cells [.arr m f]).length := by rw [arr_cells]; simpa using h
theorem id_at {j : Nat} {x : Plc} (h : j < 20) : (Segs.cells [idSeg x])[0 + j]? = some (.int .u8 (idB x j)) := by
  have := arr_at (f := idV x) h
  rw [idV_get x h] at this
  exact this

theorem arr_at' {m j : Nat} {f : Vector Value m} (h : j < m) : (Segs.cells [.arr m f])[j]? = some f[j] := by have := arr_at (f := f) h; rwa [Nat.zero_add] at this
theorem id_at' {j : Nat} {x : Plc} (h : j < 20) : (Segs.cells [idSeg x])[j]? = some (.int .u8 (idB x j)) := by have := id_at (x := x) h; rwa [Nat.zero_add] at this

/-- A cell of an array that is a value. -/
theorem X_index_arr {t el len k : Nat} {x ix : Operand} {q : IntKind} {z : Int} {r : Segs} {v : Value} (hi : ops[i]? = some ⟨some d, .index t x ix, ty, pos, af, gd⟩) (hg : want ops e gd = some true)
    (hx : ev e x = some (aggV r)) (hix : ev e ix = some (.int q z)) (ht : arOf P t = some (len, el)) (hl : lay P el = some (false, 1)) (hz : z = (k : Int)) (hk : k < len) (hv : (Segs.cells r)[k]? = some v) (hd : Nat.ble (d + 1) n.sz = true)
    (hK : XD P n ops Q rest J A ((d, v) :: e)) : XD P n ops Q (i :: rest) J A e :=
  X_pure hi rfl hg (fun a' w hA => runs_of (by
    simp only [execOp, hA.ev hx, hA.ev hix]
    refine run_v ?_
    obtain ⟨it, hu, hit, h1⟩ := arOf_spec ht
    obtain ⟨D, i2, hD, hi2, hs2, hag⟩ := lay_spec hl
    subst hz
    have hk' : k < (Segs.cells r).length := (List.getElem?_eq_some_iff.1 hv).1
    have e1 : (Segs.cells r)[k] = v := (List.getElem?_eq_some_iff.1 hv).2
    simp [Instr.index, aggV, asIntOf, run_underlying hu, sizeOf, typeInfo, hit, hk, h1]
    unfold part
    rw [run_bind_ok (run_isAgg hD), hag]
    simp [hv])) (fun a ha => ha.put hd _) hK

/-- A whole array as a slice. -/
theorem X_slice_arr {t el b off len : Nat} {x : Operand} (hi : ops[i]? = some ⟨some d, .slice t x none none none, ty, pos, af, gd⟩) (hg : want ops e gd = some true)
    (hx : ev e x = some (.pointer (some ⟨b, off, none⟩))) (ht : arOf P t = some (len, el)) (hd : Nat.ble (d + 1) n.sz = true)
    (hK : XD P n ops Q rest J A ((d, .slice (some ⟨b, off, none⟩) len len) :: e)) : XD P n ops Q (i :: rest) J A e :=
  X_pure hi rfl hg (fun a' w hA => runs_of (by
    simp only [execOp, hA.ev hx]
    refine run_v ?_
    obtain ⟨it, hu, hit, h1⟩ := arOf_spec ht
    have e0 : (⟨b, off, none⟩ : Addr).add 0 = ⟨b, off, none⟩ := by rw [Addr.add_lit]; rfl
    simp [Instr.sliceAt, run_underlying hu, Instr.sureAddr, Instr.sliceBounds, sizeOf, typeInfo, hit, h1, e0])) (fun a ha => ha.put hd _) hK

/-- The zero of an array, as a literal without parts. -/
theorem X_build0 {T el len : Nat} {r : Segs} (hi : ops[i]? = some ⟨some d, .build T #[], ty, pos, af, gd⟩) (hg : want ops e gd = some true)
    (hz : zeroOf P T = some (aggV r)) (hA : arOf P T = some (len, el)) (hd : Nat.ble (d + 1) n.sz = true) (hk : XD P n ops Q rest J A ((d, aggV r) :: e)) : XD P n ops Q (i :: rest) J A e :=
  X_pure hi rfl hg (fun a' w ha => runs_of (by
    simp only [execOp]
    refine run_v ?_
    obtain ⟨it, hu, hit, h1⟩ := arOf_spec hA
    unfold zeroOf at hz
    refine run_build w T _ _ ?_
    unfold Program.built
    cases hi : P.info? T with
    | none => rw [hi] at hz; cases hz
    | some it2 =>
      rw [hi] at hz
      simp only at hz
      simp [hu, hi, hz, hit, Instr.fill, aggV, Value.cells])) (fun a ha => ha.put hd _) hk

/-- A store into memory of ours that no read of the region leans on. -/
theorem X_storeE {t : TypeId} {x y : Operand} {b off m : Nat} {agg : Bool} {r q u : Segs} {T : TypeId} {v : Value} {MJ : Mem} {HJ : Hp} (hi : ops[i]? = some ⟨none, .store t x y, ty, pos, af, gd⟩) (hws : n.wrs.contains i = true) (hg : want ops e gd = some true)
    (hx : ev e x = some (.pointer (some ⟨b, off, none⟩))) (hy : ev e y = some v) (hp : Parts v q) (hq : flat q) (hu : Upd b (rowO r T) (rowO u T) H H') (hl : lay P t = some (agg, m)) (hn : Segs.len q = m) (hs : Segs.put r off q = some u)
    (hJ : ∀ w, St M H' w → St MJ HJ w) (hk : XD P n ops Q rest (St MJ HJ) ⟨M, H'⟩ e) : XD P n ops Q (i :: rest) (St MJ HJ) ⟨M, H⟩ e := by
  refine X_mutE hi rfl hws hg (fun a F w ha hw => ?_)
  obtain ⟨w', h1, h2, h3, h4⟩ := run_storeAt' (P := P) (St.own hw _ _ (hu.over F).mem) hl hp hq hn hs
  unfold Oper.does
  have : (execOp a.eval ⟨none, .store t x y, ty, pos, af, gd⟩).run P w = .ok .skip w' := by
    simp only [execOp, ha.ev hx, ha.ev hy]
    rw [run_bind_ok h1]; rfl
  rw [this]
  exact ⟨⟨M, H'⟩, e, St.upd hw (hu.over F) h2 (fun c hc z hz => by rw [h3 c hc]; exact hz) h4, hJ, ha, hk⟩

theorem K_unwR {m : Nat} {ds : List Deferred} {ro : Option Nat} {ws : List Nat} {x : Exit} (h : K ⟨m, ds, ro, []⟩ Q x S e) : K ⟨m, ds, ro, ws⟩ Q x S e := K_unw h

theorem C_region_anyWR {m : Nat} {ds : List Deferred} {ro : Option Nat} {Hin Hr : Hp} {id : Nat} {l : List Nat} (ws : List Nat) (B : Array Nat) (hR : Rem Hin H Hr) (hl : List.range ops.size = l) (hm : P.follows .mixedOrders = true) (hok : okRegion ops (clsOf P ws ops) B = true)
    (h : XD P ⟨m, ds, ro, ws⟩ ops Q l (St M Hr) ⟨M, H⟩ e) : C P ⟨m, ds, ro, []⟩ (.region id ops true) Q (St M H) e :=
  C_region_anyW ws B (St M Hr) hl hm hok St.drawn (fun _ hw => (hw.perm hR.perm).suf (Suf.app Hin Hr)) h

theorem C_region_anyWR2 {m : Nat} {ds : List Deferred} {ro : Option Nat} {Hin Hin2 Hr Hr2 : Hp} {id : Nat} {l : List Nat} (ws : List Nat) (B : Array Nat) (hR : Rem Hin H Hr) (hR2 : Rem Hin2 Hr Hr2) (hl : List.range ops.size = l) (hm : P.follows .mixedOrders = true) (hok : okRegion ops (clsOf P ws ops) B = true)
    (h : XD P ⟨m, ds, ro, ws⟩ ops Q l (St M Hr2) ⟨M, H⟩ e) : C P ⟨m, ds, ro, []⟩ (.region id ops true) Q (St M H) e :=
  C_region_anyW ws B (St M Hr2) hl hm hok St.drawn (fun _ hw => ((((hw.perm hR.perm).suf (Suf.app Hin Hr)).perm hR2.perm).suf (Suf.app Hin2 Hr2))) h

theorem C_region_anyWR3 {m : Nat} {ds : List Deferred} {ro : Option Nat} {Hin Hin2 Hin3 Hr Hr2 Hr3 : Hp} {id : Nat} {l : List Nat} (ws : List Nat) (B : Array Nat) (hR : Rem Hin H Hr) (hR2 : Rem Hin2 Hr Hr2) (hR3 : Rem Hin3 Hr2 Hr3) (hl : List.range ops.size = l) (hm : P.follows .mixedOrders = true) (hok : okRegion ops (clsOf P ws ops) B = true)
    (h : XD P ⟨m, ds, ro, ws⟩ ops Q l (St M Hr3) ⟨M, H⟩ e) : C P ⟨m, ds, ro, []⟩ (.region id ops true) Q (St M H) e :=
  C_region_anyW ws B (St M Hr3) hl hm hok St.drawn (fun _ hw => ((((((hw.perm hR.perm).suf (Suf.app Hin Hr)).perm hR2.perm).suf (Suf.app Hin2 Hr2))).perm hR3.perm).suf (Suf.app Hin3 Hr3)) h

/-! ### Functions without a body -/

/-- What a function of the library without a body does at a world. -/
def Ext (P : Program) (f : FuncId) (g : Array Value → Sem Value) : Prop :=
  ∀ (args : Array Value) (w : World), (callFunc f args).run P w = (do pure (Next.value (← g args)) : Sem Next).run P w

theorem does_ext {f : FuncId} {g : Array Value → Sem Value} {xs : Array Operand} {ats : Array TypeId} {a : Act} {w w' : World} {vs : List Value} {v : Value} {K : Value → World → Prop} (hf : Ext P f g)
    (hx : xs.toList.map a.eval = vs) (hr : (g vs.toArray).run P w = .ok v w') (hK : K v w') :
    Oper.does P ⟨dst, .call ⟨.value (.func f), xs, ats⟩, ty, pos, af, gd⟩ a w K := by
  unfold Oper.does
  have e : (execOp a.eval ⟨dst, .call ⟨.value (.func f), xs, ats⟩, ty, pos, af, gd⟩).run P w = .ok (.value v) w' := by
    have e1 : #[] ++ xs.map a.eval ++ #[] = vs.toArray := by
      apply Array.ext'
      simp [hx]
    rw [execOp_call_go, e1, hf, run_bind_ok hr]
    rfl
  rw [e]; exact hK

/-- A call of a function without a body that leaves memory as it was. -/
theorem X_ext {f : FuncId} {g : Array Value → Sem Value} {xs : List Operand} {ats : Array TypeId} {vs : List Value} {v : Value} (hi : ops[i]? = some ⟨some d, .call ⟨.value (.func f), xs.toArray, ats⟩, ty, pos, af, gd⟩) (hg : want ops e gd = some true)
    (hf : Ext P f g) (hx : evs e xs = some vs) (hr : ∀ w, St M H w → (g vs.toArray).run P w = .ok v w) (hd : Nat.ble (d + 1) n.sz = true)
    (hk : XD P n ops Q rest J ⟨M, H⟩ ((d, v) :: e)) : XD P n ops Q (i :: rest) J ⟨M, H⟩ e := by
  refine X_eff hi rfl hg (fun a F w ha hw => ?_)
  exact does_ext hf (ha.evs hx) (hr w (St.unframe hw)) ⟨⟨M, H⟩, _, hw, fun _ h => h, ha.put hd v, hk⟩
end
end Go.Esp
