/-
  The rules for slices.
-/
import Derived.Test.YtelpkhhfjfbkcaaDoorSlices
set_option linter.unusedSimpArgs false
set_option linter.unusedVariables false
set_option linter.unnecessarySimpa false
namespace Go.Esp
section
variable {P : Program} {n : Sh} {ops : Array Oper} {Q : Exit → Act → World → Prop} {rest : List Nat} {M M' : Mem} {H H' : Hp} {e : Env} {J S : World → Prop} {A : As} {i : Nat}
  {dst : Option Tmp} {d : Tmp} {op : Op} {ty : TypeId} {pos : String} {af : Array Edge} {gd : Option (Nat × Bool)}

/-- An address that may be reckoned with. -/
def Plain (a : Option Addr) : Prop := ∃ b o, a = some ⟨b, o, none⟩

theorem SlM.plain {a : Option Addr} {rows : List Segs} {sz : Nat} (h : SlM M a rows sz) (hn : 0 < rows.length) : Plain a := by
  obtain ⟨b, off, _, _, _, h1, _⟩ := h.there (fun e => by rw [e] at hn; cases hn)
  exact ⟨b, off, h1⟩

theorem X_indexAddr {t E sz by_ : Nat} {x ix : Operand} {a : Option Addr} {l c k : Nat} {q : IntKind} {z : Int} (hi : ops[i]? = some ⟨some d, .indexAddr t x ix, ty, pos, af, gd⟩) (hg : want ops e gd = some true)
    (hx : ev e x = some (.slice a l c)) (hix : ev e ix = some (.int q z)) (ht : slOf P t = some (E, sz, by_)) (hz : z = (k : Int)) (hk : k < l) (ha : Plain a) (hd : Nat.ble (d + 1) n.sz = true)
    (hK : XD P n ops Q rest J A ((d, eptr a k sz 0) :: e)) : XD P n ops Q (i :: rest) J A e :=
  X_pure hi rfl hg (fun a' w hA => runs_of (by
    simp only [execOp, hA.ev hx, hA.ev hix]
    refine run_v ?_
    obtain ⟨it, hu, hit, rfl, _⟩ := elemOf_spec ht
    obtain ⟨b, o, rfl⟩ := ha
    subst hz
    simp [Instr.indexAt, asIntOf, run_underlying hu, sizeOf, typeInfo, hit, hk, eptr_some, Addr.add_lit])) (fun a ha => ha.put hd _) hK

theorem X_fieldAddr_el {s : TypeId} {x : Operand} {f k j sz off : Nat} {a : Option Addr} (hi : ops[i]? = some ⟨some d, .fieldAddr s x f, ty, pos, af, gd⟩) (hg : want ops e gd = some true) (hx : ev e x = some (eptr a j sz off)) (ha : Plain a)
    (hf : foff P s f = some k) (hd : Nat.ble (d + 1) n.sz = true) (hk : XD P n ops Q rest J A ((d, eptr a j sz (off + k)) :: e)) : XD P n ops Q (i :: rest) J A e :=
  X_pure hi rfl hg (fun a' w hA => runs_of (by
    simp only [execOp, hA.ev hx]
    obtain ⟨b, o, rfl⟩ := ha
    rw [eptr_some, eptr_some]
    have := run_fieldAt (P := P) (w := w) (b := b) (off := o + (j * sz + off)) hf
    rw [show o + (j * sz + (off + k)) = o + (j * sz + off) + k by omega]
    exact run_v this)) (fun a ha => ha.put hd _) hk

theorem X_nilCheck_el {x : Operand} {a : Option Addr} {j sz off : Nat} (hi : ops[i]? = some ⟨some d, .nilCheck x, ty, pos, af, gd⟩) (hg : want ops e gd = some true) (hx : ev e x = some (eptr a j sz off)) (ha : Plain a) (hd : Nat.ble (d + 1) n.sz = true)
    (hk : XD P n ops Q rest J A ((d, eptr a j sz off) :: e)) : XD P n ops Q (i :: rest) J A e :=
  X_pure hi rfl hg (fun a' w hA => runs_of (by
    simp only [execOp, hA.ev hx]
    obtain ⟨b, o, rfl⟩ := ha
    rw [eptr_some]; rfl)) (fun a ha => ha.put hd _) hk

theorem OSl.inv {T sz : Nat} {b l c : Nat} {hs : Hp} {rows : List Segs} (h : OSl T sz (.slice (some ⟨b, 0, none⟩) l c) hs rows) :
    ∃ cur, hs = [(b, .cells cur T (0, 0))] ∧ l = rows.length ∧ Esp.lens sz rows ∧ rows.length ≤ c ∧ c ≤ maxLen ∧ cur.size = c * sz ∧ cur.toList.take (rows.length * sz) = rowsCells rows := by
  generalize hv : Value.slice (some ⟨b, 0, none⟩) l c = v at h
  cases h with
  | nil => cases hv
  | own b2 c2 rows cur h1 h2 h3 h4 h5 =>
    simp only [Value.slice.injEq, Option.some.injEq, Addr.mk.injEq, and_true] at hv
    obtain ⟨rfl, rfl, rfl⟩ := hv
    exact ⟨cur, rfl, rfl, h1, h2, h3, h4, h5⟩

/-- A load out of an element of a slice that never changes. -/
theorem X_load_el {t : TypeId} {x : Operand} {j sz off m : Nat} {a : Option Addr} {agg : Bool} {rows : List Segs} {r r' : Segs} {v : Value} {MJ : Mem} {HJ : Hp} (hi : ops[i]? = some ⟨some d, .load t x, ty, pos, af, gd⟩) (hg : want ops e gd = some true)
    (hx : ev e x = some (eptr a j sz off)) (hsl : SlM MJ a rows sz) (hr : rows[j]? = some r) (hl : lay P t = some (agg, m)) (hs : Segs.sub r off m = some r') (hv : readAs agg r' = some v)
    (hd : Nat.ble (d + 1) n.sz = true) (hk : XD P n ops Q rest (St MJ HJ) A ((d, v) :: e)) : XD P n ops Q (i :: rest) (St MJ HJ) A e :=
  X_read hi rfl hg (fun a' w ha hw => runs_of (by
    simp only [execOp, ha.ev hx]
    obtain ⟨b, o, c, T, fz, rfl, h2, h3, h4⟩ := hsl.at hr
    rw [eptr_some]
    obtain ⟨h5, h6⟩ := Segs.sub_cells hs
    obtain ⟨_, _, _, _, h7⟩ := Segs.sub_spec hs
    refine run_v (run_loadAt' (hw.mem _ _ h2) hl ?_ h7 hv)
    rw [← h5, ← h3, List.drop_take, List.take_take, List.drop_drop]
    rw [show o + (j * sz + off) = o + j * sz + off by omega]
    congr 1
    omega)) (fun a ha => ha.put hd _) hk

/-- A load out of an element of a slice of ours. -/
theorem X_load_own {t T : TypeId} {x : Operand} {j sz off m b c : Nat} {agg : Bool} {rows : List Segs} {r r' : Segs} {v : Value} {MJ : Mem} {HJ HJ0 hs : Hp} (hi : ops[i]? = some ⟨some d, .load t x, ty, pos, af, gd⟩) (hg : want ops e gd = some true)
    (hx : ev e x = some (eptr (some ⟨b, 0, none⟩) j sz off)) (ho : OSl T sz (.slice (some ⟨b, 0, none⟩) rows.length c) hs rows) (hH : Rem hs HJ HJ0) (hr : rows[j]? = some r) (hl : lay P t = some (agg, m)) (hsu : Segs.sub r off m = some r') (hv : readAs agg r' = some v)
    (hd : Nat.ble (d + 1) n.sz = true) (hk : XD P n ops Q rest (St MJ HJ) A ((d, v) :: e)) : XD P n ops Q (i :: rest) (St MJ HJ) A e :=
  X_read hi rfl hg (fun a' w ha hw => runs_of (by
    simp only [execOp, ha.ev hx]
    have hw' := hw.perm hH.perm
    obtain ⟨cur, rfl, _, h1, h2, h3, h4, h5⟩ := ho.inv
    · have hb := hw'.own b _ (List.mem_append_left _ (.head _))
      rw [eptr_some]
      obtain ⟨h6, h8⟩ := Segs.sub_cells hsu
      obtain ⟨_, _, _, _, h7⟩ := Segs.sub_spec hsu
      refine run_v (run_loadAt' hb hl ?_ h7 hv)
      have hlt := (List.getElem?_eq_some_iff.1 hr).1
      have hlr := h1 r (List.mem_of_getElem? hr)
      rw [← h6, ← rowsCells_at h1 hr, ← h5]
      simp only [List.drop_take, List.take_take, List.drop_drop, Nat.zero_add]
      congr 1
      have : (j + 1) * sz ≤ rows.length * sz := Nat.mul_le_mul_right _ hlt
      rw [Nat.add_mul] at this
      omega)) (fun a ha => ha.put hd _) hk

/-! Lengths. -/

theorem X_len_sl {t E sz by_ : Nat} {x : Operand} {a : Option Addr} {l c : Nat} {ats : Array TypeId} (hi : ops[i]? = some ⟨some d, .call ⟨.builtin .len, #[x], ats⟩, ty, pos, af, gd⟩) (hg : want ops e gd = some true)
    (hx : ev e x = some (.slice a l c)) (hat : ats[0]? = some t) (ht : slOf P t = some (E, sz, by_)) (hd : Nat.ble (d + 1) n.sz = true) (hk : XD P n ops Q rest J A ((d, .int .i64 (l : Int)) :: e)) : XD P n ops Q (i :: rest) J A e :=
  X_read hi rfl hg (fun a' w ha _ => runs_of (by
    obtain ⟨it, hu, _⟩ := elemOf_spec ht
    simp only [execOp, resolve]
    simp [invoke, builtin, Builtin.len_, ha.ev hx, hat, run_underlying hu, goInt])) (fun a ha => ha.put hd _) hk

theorem X_len_str {t : Nat} {x : Operand} {s : ByteArray} {ats : Array TypeId} (hi : ops[i]? = some ⟨some d, .call ⟨.builtin .len, #[x], ats⟩, ty, pos, af, gd⟩) (hg : want ops e gd = some true)
    (hx : ev e x = some (.string s)) (hat : ats[0]? = some t) (ht : P.underlying t = some .string) (hd : Nat.ble (d + 1) n.sz = true) (hk : XD P n ops Q rest J A ((d, .int .i64 (s.size : Int)) :: e)) : XD P n ops Q (i :: rest) J A e :=
  X_read hi rfl hg (fun a' w ha _ => runs_of (by
    simp only [execOp, resolve]
    simp [invoke, builtin, Builtin.len_, ha.ev hx, hat, run_underlying ht, goInt])) (fun a ha => ha.put hd _) hk

/-! Literals of slices. -/

def onesOf (f : Nat → Value) (sz i : Nat) : Segs := (List.range sz).map fun j => .one (f (i * sz + j))

theorem onesOf_len (f : Nat → Value) (i : Nat) : ∀ sz, Segs.len (onesOf f sz i) = sz := by
  intro sz
  unfold onesOf
  have : ∀ l : List Nat, Segs.len (l.map fun j => Seg.one (f (i * sz + j))) = l.length := by
    intro l; induction l with
    | nil => rfl
    | cons x l ih => simp [Segs.len, Seg.len, ih]; omega
  rw [this]; simp

theorem onesOf_cells (f : Nat → Value) (sz i : Nat) : Segs.cells (onesOf f sz i) = (List.range sz).map fun j => f (i * sz + j) := by
  unfold onesOf
  generalize List.range sz = l
  induction l with
  | nil => rfl
  | cons x l ih => simp [Segs.cells, Seg.cells, ih]

/-- The parts of a literal of k elements, each zero. -/
def onesAll (f : Nat → Value) (sz k : Nat) : List Segs := (List.range k).map (onesOf f sz)

theorem rowsCells_map (g : Nat → Segs) : ∀ l : List Nat, rowsCells (l.map g) = l.flatMap fun i => Segs.cells (g i)
  | [] => rfl
  | x :: l => by simp [rowsCells, rowsCells_map g l]

theorem onesAll_cells (f : Nat → Value) (sz : Nat) : ∀ k, rowsCells (onesAll f sz k) = (List.range (k * sz)).map f
  | 0 => by simp [onesAll, rowsCells]
  | k + 1 => by
    have ih := onesAll_cells f sz k
    unfold onesAll at ih ⊢
    rw [List.range_succ, List.map_append, rowsCells_append, ih, Nat.add_mul, Nat.one_mul, List.range_add, List.map_append]
    congr 1
    simp [rowsCells, onesOf_cells]

theorem offs_ones (f : Nat → Value) (sz : Nat) : ∀ (l : List Nat) (i : Nat), i ≤ l.length → offs (l.map (onesOf f sz)) i = i * sz
  | _, 0, _ => by simp [offs]
  | [], i + 1, h => by simp at h
  | x :: l, i + 1, h => by simp [offs, onesOf_len, offs_ones f sz l i (by simpa using h), Nat.add_mul]; omega

theorem setParts_len : ∀ {zs zs' : List Segs} {ps : List (Nat × Segs)} {sz : Nat}, setParts zs ps = some zs' → lens sz zs → lens sz zs' ∧ zs'.length = zs.length
  | zs, zs', [], sz, h, hl => by
    obtain rfl := Option.some.inj h
    exact ⟨hl, rfl⟩
  | zs, zs', (i, r) :: ps, sz, h, hl => by
    unfold setParts at h
    split at h
    · rename_i zs1 h1
      obtain ⟨p, z, q, e1, e2, e3, e4⟩ := setPart_spec h1
      have hz : Segs.len z = sz := hl z (by rw [e1]; simp)
      have h2 : lens sz zs1 := fun y hy => by
        rw [e2] at hy
        rcases List.mem_append.1 hy with hy | hy
        · exact hl y (by rw [e1]; simp [hy])
        · rcases List.mem_cons.1 hy with rfl | hy
          · rw [← e4]; exact hz
          · exact hl y (by rw [e1]; simp [hy])
      obtain ⟨h3, h4⟩ := setParts_len h h2
      exact ⟨h3, by rw [h4, e2, e1]; simp⟩
    · cases h

theorem X_buildSlice {t E sz by_ k : Nat} {z : Value} {xs : List (Nat × Operand)} {ps : List (Nat × Segs)} {zs' : List Segs} (hi : ops[i]? = some ⟨some d, .buildSlice t k xs.toArray, ty, pos, af, gd⟩) (hg : want ops e gd = some true)
    (ht : slOf P t = some (E, sz, by_)) (hz : zeroOf P E = some z) (hsz : Nat.ble (k * sz) 16777216 = true) (hkm : Nat.ble k 16777216 = true) (hx : EvParts e xs ps) (hs : ∀ f, setParts (onesAll f sz k) ps = some zs') (hd : Nat.ble (d + 1) n.sz = true)
    (hk : ∀ b, OSl E sz (.slice (some ⟨b, 0, none⟩) k k) [(b, .cells (rowsCells zs').toArray E (0, 0))] zs' → XD P n ops Q rest J ⟨M, (b, .cells (rowsCells zs').toArray E (0, 0)) :: H⟩ ((d, .slice (some ⟨b, 0, none⟩) k k) :: e)) : XD P n ops Q (i :: rest) J ⟨M, H⟩ e := by
  refine X_eff hi rfl hg (fun a F w ha hw => ?_)
  obtain ⟨it, hu, hit, rfl, rfl⟩ := elemOf_spec ht
  have hz' : it.zero = some z := by simpa [zeroOf, hit] using hz
  have hle := Nat.le_of_ble_eq_true hsz
  unfold Oper.does
  have hlz : ∀ f, lens it.size (onesAll f it.size k) := fun f r hr => by
    obtain ⟨j, _, rfl⟩ := List.mem_map.1 hr
    exact onesOf_len f j it.size
  have hlz' : lens it.size zs' ∧ zs'.length = k := by
    obtain ⟨h1, h2⟩ := setParts_len (hs (fun _ => undef)) (hlz _)
    exact ⟨h1, by rw [h2]; simp [onesAll]⟩
  have hfill : ∀ (cs : Array Value) (f : Nat → Value), cs = ((List.range (k * it.size)).map f).toArray → Instr.fill (fun i => some (i * it.size, it.size)) cs (xs.map fun p => (p.1, a.eval p.2)) = some (rowsCells zs').toArray := by
    intro cs f hcs
    have := fill_parts ps (xs.map fun p => (p.1, a.eval p.2)) (onesAll f it.size k) zs' (fun i => some (i * it.size, it.size)) (fun j y hj => by
      have hlt := (List.getElem?_eq_some_iff.1 hj).1
      have h1 : offs (onesAll f it.size k) j = j * it.size := offs_ones f it.size (List.range k) j (by simp [onesAll] at hlt; simp; omega)
      rw [h1, hlz f y (List.mem_of_getElem? hj)]) (hx.run ha) (hs f)
    rw [rowsCells_cat, rowsCells_cat, onesAll_cells] at this
    rw [hcs]; exact this
  have : (execOp a.eval ⟨some d, .buildSlice t k xs.toArray, ty, pos, af, gd⟩).run P w = .ok (.value (.slice (some ⟨w.heap.size, 0, none⟩) k k)) (w.alloc (.cells (rowsCells zs').toArray E (0, 0))) := by
    simp only [execOp]
    refine run_v ?_
    unfold Instr.buildSlice
    rw [run_bind_ok (run_underlying' hu)]
    simp only []
    rw [run_bind_ok (run_sizeOf' hit)]
    simp only [show ¬ (k * it.size > 2 ^ 24) by omega, if_false]
    have hmap : (Array.map (fun x => (x.fst, a.eval x.snd)) xs.toArray).toList = xs.map fun p => (p.1, a.eval p.2) := by simp
    by_cases h0 : k * it.size = 0
    · simp only [h0, if_true]
      rw [Sem.run_bind]
      show (Result.ok #[] w).andThen _ = _
      rw [Result.andThen_ok, hmap, hfill _ (fun _ => undef) (by rw [h0]; simp)]
      rfl
    · simp only [h0, if_false]
      have hzv : (zeroValue E).run P w = .ok z w := by simp [zeroValue, typeInfo, hit, hz']
      rw [run_bind_ok hzv, Sem.run_bind]
      show (Result.ok z.cells w).andThen _ = _
      rw [Result.andThen_ok, hmap, hfill _ (fun i => z.cells[i % z.cells.size]!) (by apply Array.ext'; simp [Array.toList_range])]
      rfl
  rw [this]
  refine ⟨⟨M, (w.heap.size, .cells (rowsCells zs').toArray E (0, 0)) :: H⟩, _, (St.alloc hw _).perm0 List.perm_middle.symm, fun u hu => St.tail hu, ha.put hd _, hk _ ?_⟩
  have h1 := OSl.own w.heap.size k zs' (rowsCells zs').toArray (T := E) (sz := it.size) hlz'.1 (by omega) (by
    have := Nat.le_of_ble_eq_true hkm
    simp only [maxLen]; omega) (by simp [rowsCells_length hlz'.1, hlz'.2]) (by rw [← rowsCells_length hlz'.1]; simp)
  rw [hlz'.2] at h1
  exact h1
end
end Go.Esp
