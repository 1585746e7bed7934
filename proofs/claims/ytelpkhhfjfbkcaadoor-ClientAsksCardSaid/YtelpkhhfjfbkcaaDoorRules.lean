/-
  The rules for single operations, one a kind.
-/
import Derived.Test.YtelpkhhfjfbkcaaDoorFill
set_option linter.unusedSimpArgs false
set_option linter.unusedVariables false
set_option linter.unnecessarySimpa false
namespace Go.Esp

/-- The parts of a literal of type T, each zero. -/
structure Bld (P : Program) (T : TypeId) (zs : List Segs) : Prop where
  zero : (zeroOf P T).map Value.cells = some (Segs.cells (cat zs)).toArray
  place : (match P.underlying T with | some (.struct fs) => fs.toList.mapM (fun f => (P.info? f.type).map fun i => (f.offset, i.size)) | _ => none) = some ((List.range zs.length).map fun i => (offs zs i, Segs.len (zs.getD i [])))

theorem Bld.built {P : Program} {T : TypeId} {zs zs' : List Segs} (h : Bld P T zs) {ps : List (Nat × Segs)} {vs : List (Nat × Value)} (hp : PartsL ps vs) (hs : setParts zs ps = some zs') :
    P.built T vs = some (Segs.cells (cat zs')).toArray := by
  obtain ⟨h1, h2⟩ := h
  unfold Program.built
  unfold zeroOf at h1
  cases hu : P.underlying T with
  | none => simp [hu] at h2
  | some d =>
    cases hi : P.info? T with
    | none => simp [hi] at h1
    | some it =>
      simp only [hi, Option.map_eq_some_iff] at h1
      obtain ⟨z, hz, hzc⟩ := h1
      cases d <;> simp only [hu] at h2 <;> try (cases h2; done)
      case struct fs =>
        simp only [hz, h2, hzc]
        refine fill_parts ps vs zs zs' _ (fun i y hy => ?_) hp hs
        have hlt := (List.getElem?_eq_some_iff.1 hy).1
        simp [hlt]
        have := (List.getElem?_eq_some_iff.1 hy).2
        simp [this]

section
variable {P : Program} {n : Sh} {ops : Array Oper} {Q : Exit → Act → World → Prop} {rest : List Nat} {M M' : Mem} {H H' : Hp} {e : Env} {J S : World → Prop} {A : As} {i : Nat}
  {dst : Option Tmp} {d : Tmp} {op : Op} {ty : TypeId} {pos : String} {af : Array Edge} {gd : Option (Nat × Bool)}

theorem runs_of {o : Oper} {a : Act} {w : World} {v : Value} (h : (execOp a.eval o).run P w = .ok (.value v) w) : Runs P o a w v := .inl h

theorem run_v {x : Sem Value} {v : Value} {w w' : World} (h : x.run P w = .ok v w') : (do let u ← x; pure (Next.value u) : Sem Next).run P w = .ok (.value v) w' := by
  rw [Sem.run_bind, h, Result.andThen_ok]; rfl

/-! Integers. -/

def cmpI : BinOp → Int → Int → Option Bool
  | .lss, a, b => some (decide (a < b))
  | .leq, a, b => some (decide (a ≤ b))
  | .gtr, a, b => some (decide (b < a))
  | .geq, a, b => some (decide (b ≤ a))
  | .eql, a, b => some (decide (a = b))
  | .neq, a, b => some (!decide (a = b))
  | _, _, _ => none

theorem beq_dec (a b : Int) : (a == b) = decide (a = b) := by
  by_cases h : a = b <;> simp [h]

theorem run_cmpI {o : BinOp} {t : TypeId} {x y : Operand} {k : IntKind} {a b : Int} {c : Bool} (h : cmpI o a b = some c) {w : World} :
    (do eqGuard o t x y (.int k a) (.int k b); binOp o t (.int k a) (.int k b) : Sem Value).run P w = .ok (.bool c) w := by
  have hgd : (eqGuard o t x y (.int k a) (.int k b)).run P w = .ok () w := by
    unfold eqGuard
    cases o <;> rfl
  rw [Sem.run_bind, hgd, Result.andThen_ok]
  cases o <;> simp only [cmpI, Option.some.injEq] at h <;> first
    | (cases h; done)
    | (subst h; simp [binOp, Op.intCmp]; done)
    | (subst h; simp [binOp, Op.intCmp, beq_dec, bne]; done)

theorem X_cmp {o : BinOp} {t t' : TypeId} {x y : Operand} {k : IntKind} {a b : Int} {c : Bool} (hi : ops[i]? = some ⟨some d, .binOp o t x y t', ty, pos, af, gd⟩) (hg : want ops e gd = some true)
    (hx : ev e x = some (.int k a)) (hy : ev e y = some (.int k b)) (hc : cmpI o a b = some c) (hd : Nat.ble (d + 1) n.sz = true)
    (hk : XD P n ops Q rest J A ((d, .bool c) :: e)) : XD P n ops Q (i :: rest) J A e := by
  have hr : ∀ a' w, Sat n e a' → Runs P ⟨some d, .binOp o t x y t', ty, pos, af, gd⟩ a' w (.bool c) := fun a' w ha => runs_of (by
    simp only [execOp, ha.ev hx, ha.ev hy]
    exact run_v (run_cmpI hc))
  cases hcl : clOf P (.binOp o t x y t') with
  | pure => exact X_pure hi hcl hg hr (fun a ha => ha.put hd _) hk
  | read => exact X_read hi hcl hg (fun a w ha _ => hr a w ha) (fun a ha => ha.put hd _) hk
  | eff => cases o <;> simp [clOf] at hcl
  | wr => cases o <;> simp [clOf] at hcl
  | new => cases o <;> simp [clOf] at hcl

def ariI : BinOp → Int → Int → Option Int
  | .add, a, b => some (a + b)
  | .sub, a, b => some (a - b)
  | .mul, a, b => some (a * b)
  | _, _, _ => none

theorem X_ari {o : BinOp} {t t' : TypeId} {x y : Operand} {k : IntKind} {a b z r : Int} (hi : ops[i]? = some ⟨some d, .binOp o t x y t', ty, pos, af, gd⟩) (hg : want ops e gd = some true)
    (hx : ev e x = some (.int k a)) (hy : ev e y = some (.int k b)) (hc : ariI o a b = some z) (hr : k.wrap z = r) (hd : Nat.ble (d + 1) n.sz = true)
    (hk : XD P n ops Q rest J A ((d, .int k r) :: e)) : XD P n ops Q (i :: rest) J A e := by
  have hcl : clOf P (.binOp o t x y t') = .pure := by cases o <;> first | rfl | (cases hc; done)
  refine X_pure hi hcl hg (fun a' w ha => runs_of ?_) (fun a ha => ha.put hd _) hk
  simp only [execOp, ha.ev hx, ha.ev hy]
  refine run_v ?_
  subst hr
  cases o <;> simp only [ariI, Option.some.injEq] at hc <;> first
    | (cases hc; done)
    | (subst hc; rw [Sem.run_bind]; simp [eqGuard, binOp, Op.intArith]; done)

theorem wrap_in {k : IntKind} {z : Int} (h : k = .i64) (hz : -9223372036854775808 ≤ z ∧ z ≤ 9223372036854775807) : k.wrap z = z := by
  subst h
  have := IntWalk.i64_in z hz
  exact this

/-! Strings, bools, pointers. -/

theorem beq_toList (s t : ByteArray) : (s.toList == t.toList) = decide (s = t) := by
  by_cases h : s = t
  · subst h; simp
  · simp only [h, decide_false]
    rw [beq_eq_false_iff_ne]
    intro hl
    apply h
    have := congrArg List.toArray hl
    rw [ByteArray.toList_eq, ByteArray.toList_eq] at this
    exact ByteArray.ext (by simpa using this)

def cmpS : BinOp → ByteArray → ByteArray → Option Bool
  | .eql, a, b => some (decide (a = b))
  | .neq, a, b => some (!decide (a = b))
  | _, _, _ => none

theorem X_str {o : BinOp} {t t' : TypeId} {x y : Operand} {a b : ByteArray} {c : Bool} (hi : ops[i]? = some ⟨some d, .binOp o t x y t', ty, pos, af, gd⟩) (hg : want ops e gd = some true)
    (hx : ev e x = some (.string a)) (hy : ev e y = some (.string b)) (hc : cmpS o a b = some c) (hd : Nat.ble (d + 1) n.sz = true)
    (hk : XD P n ops Q rest J A ((d, .bool c) :: e)) : XD P n ops Q (i :: rest) J A e := by
  have hr : ∀ a' w, Sat n e a' → Runs P ⟨some d, .binOp o t x y t', ty, pos, af, gd⟩ a' w (.bool c) := fun a' w ha => runs_of (by
    simp only [execOp, ha.ev hx, ha.ev hy]
    refine run_v ?_
    cases o <;> simp only [cmpS, Option.some.injEq] at hc <;> first
      | (cases hc; done)
      | (subst hc; rw [Sem.run_bind]; simp [eqGuard, binOp, Op.stringOp, beq_toList]; done))
  have hcl : clOf P (.binOp o t x y t') = .read := by cases o <;> first | rfl | (cases hc; done)
  exact X_read hi hcl hg (fun a w ha _ => hr a w ha) (fun a ha => ha.put hd _) hk

theorem X_not {t : TypeId} {x : Operand} {b : Bool} (hi : ops[i]? = some ⟨some d, .unOp .not t x, ty, pos, af, gd⟩) (hg : want ops e gd = some true) (hx : ev e x = some (.bool b)) (hd : Nat.ble (d + 1) n.sz = true)
    (hk : XD P n ops Q rest J A ((d, .bool (!b)) :: e)) : XD P n ops Q (i :: rest) J A e :=
  X_pure hi rfl hg (fun a' w ha => runs_of (by simp only [execOp, ha.ev hx]; rfl)) (fun a ha => ha.put hd _) hk

theorem X_nilCheck {x : Operand} {a : Addr} (hi : ops[i]? = some ⟨some d, .nilCheck x, ty, pos, af, gd⟩) (hg : want ops e gd = some true) (hx : ev e x = some (.pointer (some a))) (hd : Nat.ble (d + 1) n.sz = true)
    (hk : XD P n ops Q rest J A ((d, .pointer (some a)) :: e)) : XD P n ops Q (i :: rest) J A e :=
  X_pure hi rfl hg (fun a' w ha => runs_of (by simp only [execOp, ha.ev hx]; rfl)) (fun a ha => ha.put hd _) hk

theorem X_extract {t : Operand} {ix : Nat} {vs : Array Value} {v : Value} (hi : ops[i]? = some ⟨some d, .extract t ix, ty, pos, af, gd⟩) (hg : want ops e gd = some true) (hx : ev e t = some (.tuple vs)) (hv : vs[ix]? = some v)
    (hd : Nat.ble (d + 1) n.sz = true) (hk : XD P n ops Q rest J A ((d, v) :: e)) : XD P n ops Q (i :: rest) J A e :=
  X_pure hi rfl hg (fun a' w ha => runs_of (by simp only [execOp, ha.ev hx]; exact run_v (by simp [Instr.extract, hv]))) (fun a ha => ha.put hd _) hk

theorem X_iface {t : TypeId} {x : Operand} {v : Value} {D : TypeDesc} (hi : ops[i]? = some ⟨some d, .makeInterface t x, ty, pos, af, gd⟩) (hg : want ops e gd = some true) (hx : ev e x = some v)
    (hu : P.underlying t = some D) (hD : (match D with | .interface _ => false | _ => true) = true) (hd : Nat.ble (d + 1) n.sz = true) (hk : XD P n ops Q rest J A ((d, .iface t v) :: e)) : XD P n ops Q (i :: rest) J A e :=
  X_pure hi rfl hg (fun a' w ha => runs_of (by
    simp only [execOp, ha.ev hx]
    refine run_v ?_
    unfold Instr.makeInterface
    rw [run_bind_ok (run_underlying' hu)]
    cases D <;> first | rfl | (cases hD; done))) (fun a ha => ha.put hd _) hk

/-! Structs in memory of ours. -/

theorem run_fieldAt {s : TypeId} {f k b off : Nat} {w : World} (hf : foff P s f = some k) : (Instr.fieldAt s (.pointer (some ⟨b, off, none⟩)) f).run P w = .ok (.pointer (some ⟨b, off + k, none⟩)) w := by
  obtain ⟨fs, fd, it, hu, hfd, hit, hne, rfl⟩ := foff_spec hf
  unfold Instr.fieldAt
  rw [run_bind_ok (run_underlying' hu)]
  simp only [hfd]
  rw [Sem.run_bind]
  show (Result.ok _ w).andThen _ = _
  rw [Result.andThen_ok]
  unfold fieldPlace
  rw [Sem.run_bind, Sem.run_bind, run_sizeOf' hit, Result.andThen_ok, if_neg hne]
  show (Result.ok _ w).andThen _ = _
  rw [Result.andThen_ok, Addr.add_lit]
  rfl

theorem X_fieldAddr {s : TypeId} {x : Operand} {f k b off : Nat} (hi : ops[i]? = some ⟨some d, .fieldAddr s x f, ty, pos, af, gd⟩) (hg : want ops e gd = some true) (hx : ev e x = some (.pointer (some ⟨b, off, none⟩)))
    (hf : foff P s f = some k) (hd : Nat.ble (d + 1) n.sz = true) (hk : XD P n ops Q rest J A ((d, .pointer (some ⟨b, off + k, none⟩)) :: e)) : XD P n ops Q (i :: rest) J A e :=
  X_pure hi rfl hg (fun a' w ha => runs_of (by simp only [execOp, ha.ev hx]; exact run_v (run_fieldAt hf))) (fun a ha => ha.put hd _) hk

/-- A load out of memory of ours. HJ: what is ours for all of this region's reads. -/
theorem X_load {t : TypeId} {x : Operand} {b off m : Nat} {agg : Bool} {r r' : Segs} {T : TypeId} {v : Value} {MJ : Mem} {HJ : Hp} (hi : ops[i]? = some ⟨some d, .load t x, ty, pos, af, gd⟩) (hg : want ops e gd = some true)
    (hx : ev e x = some (.pointer (some ⟨b, off, none⟩))) (hb : (b, rowO r T) ∈ HJ) (hl : lay P t = some (agg, m)) (hs : Segs.sub r off m = some r') (hv : readAs agg r' = some v)
    (hd : Nat.ble (d + 1) n.sz = true) (hk : XD P n ops Q rest (St MJ HJ) A ((d, v) :: e)) : XD P n ops Q (i :: rest) (St MJ HJ) A e :=
  X_read hi rfl hg (fun a' w ha hw => runs_of (by
    simp only [execOp, ha.ev hx]
    obtain ⟨h1, h2⟩ := Segs.sub_cells hs
    obtain ⟨_, _, _, _, h3⟩ := Segs.sub_spec hs
    exact run_v (run_loadAt' (hw.own _ _ hb) hl h1 h3 hv))) (fun a ha => ha.put hd _) hk

/-- A store into memory of ours. -/
theorem X_store {t : TypeId} {x y : Operand} {b off m : Nat} {agg : Bool} {r q u : Segs} {T : TypeId} {v : Value} (hi : ops[i]? = some ⟨none, .store t x y, ty, pos, af, gd⟩) (hg : want ops e gd = some true)
    (hx : ev e x = some (.pointer (some ⟨b, off, none⟩))) (hy : ev e y = some v) (hp : Parts v q) (hq : flat q) (hu : Upd b (rowO r T) (rowO u T) H H') (hl : lay P t = some (agg, m)) (hn : Segs.len q = m) (hs : Segs.put r off q = some u)
    (hk : XD P n ops Q rest (St M H') ⟨M, H'⟩ e) (hnw : n.wrs.contains i = false := by rfl) : XD P n ops Q (i :: rest) J ⟨M, H⟩ e := by
  refine X_mut hi rfl hg (fun a w ha hw => ?_) hnw
  obtain ⟨w', h1, h2, h3, h4⟩ := run_storeAt' (P := P) (hw.own _ _ hu.mem) hl hp hq hn hs
  unfold Oper.does
  have : (execOp a.eval ⟨none, .store t x y, ty, pos, af, gd⟩).run P w = .ok .skip w' := by
    simp only [execOp, ha.ev hx, ha.ev hy]
    rw [run_bind_ok h1]; rfl
  rw [this]
  exact ⟨⟨M, H'⟩, e, hw.upd hu h2 (fun c hc z hz => by rw [h3 c hc]; exact hz) h4, ha, hk⟩

theorem run_newVar {t : TypeId} {v : Value} {w : World} : (newVar t v).run P w = .ok ⟨w.heap.size, 0, none⟩ (w.alloc (.cells v.cells t)) := rfl

theorem St.head {b : Nat} {o : Obj} : ∀ u, St M ((b, o) :: H) u → St M H u := fun _ h => h.tail

theorem X_box {T : TypeId} {x : Operand} {v : Value} {r : Segs} (hi : ops[i]? = some ⟨some d, .box T x, ty, pos, af, gd⟩) (hg : want ops e gd = some true) (hx : ev e x = some v) (hp : Parts v r) (hd : Nat.ble (d + 1) n.sz = true)
    (hk : ∀ b, XD P n ops Q rest J ⟨M, (b, rowO r T) :: H⟩ ((d, .pointer (some ⟨b, 0, none⟩)) :: e)) : XD P n ops Q (i :: rest) J ⟨M, H⟩ e := by
  refine X_new (x := rowO r T) hi rfl hg (fun a ha w => ?_) (e' := fun b => (d, .pointer (some ⟨b, 0, none⟩)) :: e) (fun a b ha => ha.put hd _) hk
  simp only [execOp, ha.ev hx]
  refine run_v ?_
  unfold Instr.box
  rw [Sem.run_bind, run_newVar, Result.andThen_ok, hp.cells]; rfl

theorem X_alloc {T : TypeId} {z : Value} {r : Segs} (hi : ops[i]? = some ⟨some d, .alloc T, ty, pos, af, gd⟩) (hg : want ops e gd = some true) (hz : zeroOf P T = some z) (hp : Parts z r) (hd : Nat.ble (d + 1) n.sz = true)
    (hk : ∀ b, XD P n ops Q rest J ⟨M, (b, rowO r T) :: H⟩ ((d, .pointer (some ⟨b, 0, none⟩)) :: e)) : XD P n ops Q (i :: rest) J ⟨M, H⟩ e := by
  refine X_new (x := rowO r T) hi rfl hg (fun a ha w => ?_) (e' := fun b => (d, .pointer (some ⟨b, 0, none⟩)) :: e) (fun a b ha => ha.put hd _) hk
  simp only [execOp]
  refine run_v ?_
  unfold zeroOf at hz
  split at hz
  · rename_i it hit
    unfold Instr.alloc
    have : (zeroValue T).run P w = .ok z w := by simp [zeroValue, typeInfo, hit, hz]
    rw [Sem.run_bind, this, Result.andThen_ok]
    simp only []
    rw [Sem.run_bind, run_newVar, Result.andThen_ok, hp.cells]; rfl
  · cases hz

/-- What the operands of a literal are, as parts. -/
inductive EvParts (e : Env) : List (Nat × Operand) → List (Nat × Segs) → Prop
  | nil : EvParts e [] []
  | cons {k : Nat} {x : Operand} {v : Value} {r : Segs} {xs : List (Nat × Operand)} {ps : List (Nat × Segs)} : ev e x = some v → Parts v r → EvParts e xs ps → EvParts e ((k, x) :: xs) ((k, r) :: ps)

theorem EvParts.run {a : Act} (ha : Sat n e a) : ∀ {xs : List (Nat × Operand)} {ps : List (Nat × Segs)}, EvParts e xs ps → PartsL ps (xs.map fun p => (p.1, a.eval p.2))
  | _, _, .nil => .nil
  | _, _, .cons hx hp hr => by
    rw [List.map_cons, ha.ev hx]
    exact .cons hp (EvParts.run ha hr)

theorem X_build {T : TypeId} {xs : List (Nat × Operand)} {ps : List (Nat × Segs)} {zs zs' : List Segs} (hi : ops[i]? = some ⟨some d, .build T xs.toArray, ty, pos, af, gd⟩) (hg : want ops e gd = some true)
    (hb : Bld P T zs) (hx : EvParts e xs ps) (hs : setParts zs ps = some zs') (hd : Nat.ble (d + 1) n.sz = true) (hk : XD P n ops Q rest J A ((d, aggV (cat zs')) :: e)) : XD P n ops Q (i :: rest) J A e :=
  X_pure hi rfl hg (fun a' w ha => runs_of (by
    simp only [execOp]
    refine run_v ?_
    have := hb.built (hx.run ha) hs
    exact run_build w T _ _ (by simpa using this))) (fun a ha => ha.put hd _) hk

theorem X_makeMap {t : TypeId} (hi : ops[i]? = some ⟨some d, .makeMap t none, ty, pos, af, gd⟩) (hg : want ops e gd = some true) (hd : Nat.ble (d + 1) n.sz = true)
    (hk : ∀ b, XD P n ops Q rest J ⟨M, (b, .map #[] 0) :: H⟩ ((d, .map (some b)) :: e)) : XD P n ops Q (i :: rest) J ⟨M, H⟩ e := by
  refine X_eff hi rfl hg (fun a F w ha hw => ?_)
  unfold Oper.does
  have : (execOp a.eval ⟨some d, .makeMap t none, ty, pos, af, gd⟩).run P w = .ok (.value (.map (some w.heap.size))) (w.alloc (.map #[] 0)) := by
    simp only [execOp]
    exact run_v rfl
  rw [this]
  exact ⟨⟨M, (w.heap.size, .map #[] 0) :: H⟩, _, (St.alloc hw (.map #[] 0)).perm0 List.perm_middle.symm, fun u hu => St.tail hu, ha.put hd _, hk _⟩

/-! Calls. -/

theorem does_call {f : FuncId} {xs : Array Operand} {ats : Array TypeId} {a : Act} {w : World} {vs : List Value} {fn : Func} {K : Value → World → Prop} (hf : P.funcs[f]? = some fn) (hb : fn.body.isSome = true) (hn : (fn.name == "runtime.NumGoroutine") = false)
    (hv : xs.toList.map a.eval = vs) (h : Calls P f vs.toArray w fun e w' => ∃ v, e = .returned v ∧ K v w') :
    Oper.does P ⟨dst, .call ⟨.value (.func f), xs, ats⟩, ty, pos, af, gd⟩ a w K := by
  unfold Oper.does
  have : (execOp a.eval ⟨dst, .call ⟨.value (.func f), xs, ats⟩, ty, pos, af, gd⟩).run P w = .ok (.enter f vs.toArray) w := by
    have e : #[] ++ xs.map a.eval ++ #[] = vs.toArray := by
      apply Array.ext'
      simp [hv]
    rw [execOp_call_go, e]
    unfold callFunc
    rw [Sem.run_bind]
    show (Result.ok P w).andThen _ = _
    rw [Result.andThen_ok]
    simp only [hf, hn, Bool.false_eq_true, if_false]
    have : fn.body.isNone = false := by cases h' : fn.body <;> simp_all
    simp only [this, Bool.false_eq_true, if_false]
    rfl
  rw [this]
  exact h

/-- What must hold of a function that is called by its name: it has a body. -/
def okFn (P : Program) (f : FuncId) : Bool := match P.funcs[f]? with
  | some fn => fn.body.isSome && !(fn.name == "runtime.NumGoroutine")
  | none => false

theorem okFn_spec {f : FuncId} (h : okFn P f = true) : ∃ fn, P.funcs[f]? = some fn ∧ fn.body.isSome = true ∧ (fn.name == "runtime.NumGoroutine") = false := by
  unfold okFn at h
  split at h
  · rename_i fn hf
    simp only [Bool.and_eq_true, Bool.not_eq_true'] at h
    exact ⟨fn, hf, h.1, h.2⟩
  · cases h

theorem swapF (F A B : Hp) : (F ++ (A ++ B)).Perm (A ++ (F ++ B)) := by
  rw [← List.append_assoc, ← List.append_assoc]
  exact List.Perm.append_right B List.perm_append_comm

theorem X_fs {f : FuncId} {xs : List Operand} {ats : Array TypeId} {vs : List Value} {R : Value → Prop} (hi : ops[i]? = some ⟨some d, .call ⟨.value (.func f), xs.toArray, ats⟩, ty, pos, af, gd⟩) (hg : want ops e gd = some true)
    (hf : okFn P f = true) (hx : evs e xs = some vs) (hc : Fs P f vs M R) (hd : Nat.ble (d + 1) n.sz = true) (hk : ∀ v, R v → XD P n ops Q rest J ⟨M, H⟩ ((d, v) :: e)) : XD P n ops Q (i :: rest) J ⟨M, H⟩ e := by
  obtain ⟨fn, h1, h2, h3⟩ := okFn_spec hf
  refine X_eff hi rfl hg (fun a F w ha hw => does_call h1 h2 h3 (by simpa using ha.evs hx) ?_)
  exact (hc (F ++ H) w hw).mono fun e' w' ⟨v, he, hs, hr⟩ => ⟨v, he, ⟨M, H⟩, _, hs, fun _ h => h, ha.put hd v, hk v hr⟩

theorem X_fn {f : FuncId} {xs : List Operand} {ats : Array TypeId} {vs : List Value} {R : Mem → Value → Prop} (hi : ops[i]? = some ⟨some d, .call ⟨.value (.func f), xs.toArray, ats⟩, ty, pos, af, gd⟩) (hg : want ops e gd = some true)
    (hf : okFn P f = true) (hx : evs e xs = some vs) (hc : Fn P f vs M R) (hd : Nat.ble (d + 1) n.sz = true) (hk : ∀ v M', M.le M' → R M' v → XD P n ops Q rest J ⟨M', H⟩ ((d, v) :: e)) : XD P n ops Q (i :: rest) J ⟨M, H⟩ e := by
  obtain ⟨fn, h1, h2, h3⟩ := okFn_spec hf
  refine X_eff hi rfl hg (fun a F w ha hw => does_call h1 h2 h3 (by simpa using ha.evs hx) ?_)
  exact (hc (F ++ H) w hw).mono fun e' w' ⟨v, M', he, hm, hs, hr⟩ => ⟨v, he, ⟨M', H⟩, _, hs, fun _ h => St.lower h hm, ha.put hd v, hk v M' hm hr⟩

def putE : Option Tmp → Value → Env → Env
  | some d, v, e => (d, v) :: e
  | none, _, e => e

/-- A call that turns blocks of ours: Hin of H becomes Hout; the reads of this region lean on none of them. -/
theorem X_fh {f : FuncId} {xs : List Operand} {ats : Array TypeId} {vs : List Value} {Hin Hr : Hp} {R : Mem → Value → Hp → Prop} {MJ : Mem} {HJ : Hp} (hi : ops[i]? = some ⟨dst, .call ⟨.value (.func f), xs.toArray, ats⟩, ty, pos, af, gd⟩) (hg : want ops e gd = some true)
    (hf : okFn P f = true) (hx : evs e xs = some vs) (hc : Fh P f vs M Hin R) (hH : H.Perm (Hin ++ Hr)) (hJ : ∀ M' Hout w, M.le M' → St M' (Hout ++ Hr) w → St MJ HJ w)
    (hd : ∀ a v, Sat n e a → Sat n (putE dst v e) (a.put dst v))
    (hk : ∀ v M' Hout, M.le M' → R M' v Hout → XD P n ops Q rest (St MJ HJ) ⟨M', Hout ++ Hr⟩ (putE dst v e)) : XD P n ops Q (i :: rest) (St MJ HJ) ⟨M, H⟩ e := by
  obtain ⟨fn, h1, h2, h3⟩ := okFn_spec hf
  refine X_effJ hi rfl hg (fun _ a F w ha hw => does_call h1 h2 h3 (by simpa using ha.evs hx) ?_)
  exact (hc (F ++ Hr) w (hw.perm0 ((hH.append_left F).trans (swapF F Hin Hr)))).mono fun e' w' ⟨v, M', Hout, he, hm, hs, hr⟩ => ⟨v, he, ⟨M', Hout ++ Hr⟩, _, hs.perm0 (swapF F Hout Hr).symm, fun u hu => hJ M' Hout u hm hu, hd a v ha, hk v M' Hout hm hr⟩

/-! Code. -/

theorem C_seq {x y : Code} (h : C P n x (Exit.then (y.wpIn (Fr n.ro) 0 P Q) Q) S e) : C P n (.seq x y) Q S e := fun a w ha hw => wpIn_seq (h a w ha hw)
theorem C_skip (h : K n Q .normal S e) : C P n .skip Q S e := fun a w ha hw => wpIn_skip (h a w ha hw)
theorem C_label {l : Nat} (h : K n Q .normal S e) : C P n (.label l) Q S e := fun a w ha hw => wpIn_label (h a w ha hw)
theorem C_exit {id : Nat} (h : K n Q (.exit id) S e) : C P n (.exit id) Q S e := fun a w ha hw => wpIn_exit (h a w ha hw)
theorem C_ret (h : K n Q .ret S e) : C P n .ret Q S e := fun a w ha hw => wpIn_ret (h a w ha hw)
theorem C_block {id : Nat} {c : Code} (h : C P n c (Exit.inBlock id Q) S e) : C P n (.block id c) Q S e := fun a w ha hw => wpIn_block (h a w ha hw)
theorem C_cond {c : Operand} {x y : Code} {b : Bool} (hc : ev e c = some (.bool b)) (ht : b = true → C P n x Q S e) (hf : b = false → C P n y Q S e) : C P n (.cond c x y) Q S e :=
  fun a w ha hw => wpIn_cond_split (ha.ev hc) (fun h => ht h a w ha hw) (fun h => hf h a w ha hw)
theorem C_true {c : Operand} {x y : Code} (hc : ev e c = some (.bool true)) (ht : C P n x Q S e) : C P n (.cond c x y) Q S e :=
  fun a w ha hw => wpIn_cond_true (ha.ev hc) (ht a w ha hw)
theorem C_false {c : Operand} {x y : Code} (hc : ev e c = some (.bool false)) (hf : C P n y Q S e) : C P n (.cond c x y) Q S e :=
  fun a w ha hw => wpIn_cond_false (ha.ev hc) (hf a w ha hw)

theorem K_then {y : Code} (h : C P n y Q S e) : K n (Exit.then (y.wpIn (Fr n.ro) 0 P Q) Q) .normal S e := h
theorem K_thru {N : Act → World → Prop} {x : Exit} (hx : x ≠ .normal) (h : K n Q x S e) : K n (Exit.then N Q) x S e := fun a w ha hw => by
  cases x <;> first | exact h a w ha hw | exact (hx rfl).elim
theorem K_ret {N : Act → World → Prop} (h : K n Q .ret S e) : K n (Exit.then N Q) .ret S e := h
theorem K_exit {N : Act → World → Prop} {id : Nat} (h : K n Q (.exit id) S e) : K n (Exit.then N Q) (.exit id) S e := h
theorem K_hit {id : Nat} (h : K n Q .normal S e) : K n (Exit.inBlock id Q) (.exit id) S e := fun a w ha hw => by simp only [Exit.inBlock, if_true]; exact h a w ha hw
theorem K_miss {id id' : Nat} (hne : id' ≠ id) (h : K n Q (.exit id') S e) : K n (Exit.inBlock id Q) (.exit id') S e := fun a w ha hw => by simp only [Exit.inBlock, hne, if_false]; exact h a w ha hw
theorem K_out {id : Nat} (h : K n Q .normal S e) : K n (Exit.inBlock id Q) .normal S e := h
theorem K_retB {id : Nat} (h : K n Q .ret S e) : K n (Exit.inBlock id Q) .ret S e := h

/-- Fewer slots, and less of the world. -/
theorem C_weak {c : Code} {S' : World → Prop} {e' : Env} (he : ∀ a, Sat n e a → Sat n e' a) (hS : ∀ w, S w → S' w) (h : C P n c Q S' e') : C P n c Q S e := fun a w ha hw => h a w (he a ha) (hS w hw)
theorem K_weak {x : Exit} {S' : World → Prop} {e' : Env} (he : ∀ a, Sat n e a → Sat n e' a) (hS : ∀ w, S w → S' w) (h : K n Q x S' e') : K n Q x S e := fun a w ha hw => h a w (he a ha) (hS w hw)

/-- e' is what e says of some slots. -/
inductive Pick (e : Env) : Env → Prop
  | nil : Pick e []
  | cons {k : Nat} {v : Value} {r : Env} : get e k = some v → Pick e r → Pick e ((k, v) :: r)

theorem Pick.get {e e' : Env} (h : Pick e e') : ∀ k v, Esp.get e' k = some v → Esp.get e k = some v := by
  induction h with
  | nil => intro k v hk; cases hk
  | cons hg _ ih =>
    intro k v hk
    unfold Esp.get at hk
    split at hk
    · rename_i hb
      have := Nat.eq_of_beq_eq_true hb
      subst this
      obtain rfl := Option.some.inj hk
      exact hg
    · exact ih k v hk

theorem Sat.pick {a : Act} {e' : Env} (ha : Sat n e a) (h : Pick e e') : Sat n e' a := ⟨ha.size, ha.defers, fun k v hk => ha.slot k v (h.get k v hk)⟩

theorem C_pick {c : Code} {e' : Env} (h : Pick e e') (hk : C P n c Q S e') : C P n c Q S e := C_weak (fun _ ha => ha.pick h) (fun _ h => h) hk

/-- The first k slots, and the others. -/
inductive Spl : Env → Env → Env → Prop
  | zero {e : Env} : Spl e [] e
  | succ {x : Nat × Value} {e a b : Env} : Spl e a b → Spl (x :: e) (x :: a) b

theorem Spl.eq {e a b : Env} (h : Spl e a b) : e = a ++ b := by
  induction h with
  | zero => rfl
  | succ _ ih => simp [ih]

/-- What a round ends with. -/
def Round {α : Type} (n : Sh) (e0 : Env) (I : α → (World → Prop) → Env → Prop) (μ : α → Nat) (x : α) : Act → World → Prop :=
  fun A w => ∃ y S' a', I y S' a' ∧ μ y < μ x ∧ Sat n (a' ++ e0) A ∧ S' w

/-- A loop. I: what a round's head is like: the ghost x, the world, the slots that turn; e0: the slots that do not. -/
theorem C_loop {α : Type} {c : Code} {a0 e0 : Env} (hs : Spl e a0 e0) (I : α → (World → Prop) → Env → Prop) (μ : α → Nat) (x0 : α) (h0 : I x0 S a0)
    (round : ∀ x S a, I x S a → C P n c (Exit.then (Round n e0 I μ x) Q) S (a ++ e0)) : C P n (.loop c) Q S e := by
  intro a w ha hw b k cs hro hb hr
  have key : ∀ m a w, (∃ x S z, I x S z ∧ μ x = m ∧ Sat n (z ++ e0) a ∧ S w) →
      ∃ e a' w', Q e a' w' ∧ ArrivesIn (Machine.fenced P (Fr n.ro)) P (lone (b.atR a (.code c :: .inLoop c :: k)) cs w) b k cs e a' w' := by
    intro m
    induction m using Nat.strongRecOn with
    | _ m ih =>
      rintro a w ⟨x, S, z, hI, hm', ha, hw⟩
      subst hm'
      obtain ⟨ex, a₁, w₁, hq, harr⟩ := round x S z hI a w ha hw b (.inLoop c :: k) cs hro hb hr
      cases ex with
      | normal =>
        obtain ⟨y, S', z', hI', hlt, ha', hw'⟩ := hq
        obtain ⟨e₂, a₂, w₂, hq₂, harr₂⟩ := ih (μ y) hlt a₁ w₁ ⟨y, S', z', hI', rfl, ha', hw'⟩
        exact ⟨e₂, a₂, w₂, hq₂, .of_steps (StepsIn.trans harr (.one (fenced_calm hb hr rfl) stepR_inLoop)) harr₂⟩
      | exit id => exact ⟨_, a₁, w₁, hq, .pass (x := .inLoop c) rfl (fun _ _ => .inl (by simp)) harr⟩
      | goto l => exact ⟨_, a₁, w₁, hq, .pass (x := .inLoop c) rfl (fun _ _ => .inl (by simp)) harr⟩
      | ret => exact ⟨_, a₁, w₁, hq, .pass (x := .inLoop c) rfl (fun _ _ => .inl (by simp)) harr⟩
      | panic ch => exact ⟨_, a₁, w₁, hq, .pass (x := .inLoop c) rfl (fun _ _ => .inl (by simp)) harr⟩
      | outgrown => exact ⟨_, a₁, w₁, hq, .pass (x := .inLoop c) rfl (fun _ _ => .inl (by simp)) harr⟩
  obtain ⟨e', a', w', hq, harr⟩ := key _ a w ⟨x0, S, a0, h0, rfl, hs.eq ▸ ha, hw⟩
  exact ⟨e', a', w', hq, .of_steps (.one (fenced_calm hb hr rfl) stepR_loop) harr⟩

theorem K_round {α : Type} {a' e0 : Env} {I : α → (World → Prop) → Env → Prop} {μ : α → Nat} {x : α} (y : α) (hp : Pick e (a' ++ e0)) (hI : I y S a') (hμ : μ y < μ x) :
    K n (Exit.then (Round n e0 I μ x) Q) .normal S e := fun _ _ ha hw => ⟨y, S, a', hI, hμ, ha.pick hp, hw⟩

/-! Functions. -/

theorem zip_sat {args : List Value} {m : Nat} : ∀ k v, args[k]? = some v → (args.toArray ++ Array.replicate (m - args.toArray.size) undef).getD k undef = v := by
  intro k v hk
  have hlt := (List.getElem?_eq_some_iff.1 hk).1
  have : (args.toArray ++ Array.replicate (m - args.toArray.size) undef)[k]? = some v := by
    rw [Array.getElem?_append_left (by simpa using hlt)]
    simpa using hk
  simp only [Array.getD_eq_getD_getElem?, this, Option.getD_some]

/-- The first frame. -/
def args0 : Nat → List Value → Env
  | _, [] => []
  | k, v :: vs => (k, v) :: args0 (k + 1) vs

theorem args0_get : ∀ (vs : List Value) (k j : Nat) (v : Value), get (args0 k vs) j = some v → k ≤ j ∧ vs[j - k]? = some v
  | [], k, j, v, h => by cases h
  | x :: vs, k, j, v, h => by
    unfold args0 Esp.get at h
    split at h
    · rename_i hb
      have := Nat.eq_of_beq_eq_true hb
      subst this
      obtain rfl := Option.some.inj h
      simp
    · obtain ⟨h1, h2⟩ := args0_get vs (k + 1) j v h
      refine ⟨by omega, ?_⟩
      rw [show j - k = (j - (k + 1)) + 1 by omega]
      simpa using h2

theorem enter {f : FuncId} {fn : Func} {c : Code} {vs : List Value} {w : World} {R : Ending → World → Prop} {m : Nat} (hf : P.funcs[f]? = some fn) (hb : fn.body = some c) (hm : fn.ntmps = m) (hle : Nat.ble vs.length m = true)
    (hw : S w) (h : C P ⟨m, [], none, []⟩ c (bodyPost P fn R) S (args0 0 vs)) : Calls P f vs.toArray w R := by
  have hle' : vs.length ≤ m := Nat.le_of_ble_eq_true hle
  refine calls_of_wp hf hb (wpIn_wide.1 (h _ w ⟨?_, rfl, fun k v hk => ?_⟩ hw))
  · simp [hm]; omega
  · rw [hm]
    obtain ⟨_, h2⟩ := args0_get vs 0 k v hk
    exact zip_sat k v (by simpa using h2)

theorem fs_enter {f : FuncId} {fn : Func} {c : Code} {vs : List Value} {R : Value → Prop} {m : Nat} (hf : P.funcs[f]? = some fn) (hb : fn.body = some c) (hm : fn.ntmps = m) (hle : Nat.ble vs.length m = true)
    (h : ∀ H, C P ⟨m, [], none, []⟩ c (bodyPost P fn fun e w' => ∃ v, e = .returned v ∧ St M H w' ∧ R v) (St M H) (args0 0 vs)) : Fs P f vs M R :=
  fun H _ hw => enter (S := St M H) hf hb hm hle hw (h H)

theorem fn_enter {f : FuncId} {fn : Func} {c : Code} {vs : List Value} {R : Mem → Value → Prop} {m : Nat} (hf : P.funcs[f]? = some fn) (hb : fn.body = some c) (hm : fn.ntmps = m) (hle : Nat.ble vs.length m = true)
    (h : ∀ H, C P ⟨m, [], none, []⟩ c (bodyPost P fn fun e w' => ∃ v M', e = .returned v ∧ M.le M' ∧ St M' H w' ∧ R M' v) (St M H) (args0 0 vs)) : Fn P f vs M R :=
  fun H _ hw => enter (S := St M H) hf hb hm hle hw (h H)

theorem fh_enter {f : FuncId} {fn : Func} {c : Code} {vs : List Value} {Hin : Hp} {R : Mem → Value → Hp → Prop} {m : Nat} (hf : P.funcs[f]? = some fn) (hb : fn.body = some c) (hm : fn.ntmps = m) (hle : Nat.ble vs.length m = true)
    (h : ∀ H, C P ⟨m, [], none, []⟩ c (bodyPost P fn fun e w' => ∃ v M' Hout, e = .returned v ∧ M.le M' ∧ St M' (Hout ++ H) w' ∧ R M' v Hout) (St M (Hin ++ H)) (args0 0 vs)) : Fh P f vs M Hin R :=
  fun H _ hw => enter (S := St M (Hin ++ H)) hf hb hm hle hw (h H)

/-- What a function hands back. -/
inductive Res (P : Program) (e : Env) (H : Hp) : List ResultVar → List Value → Prop
  | nil : Res P e H [] []
  | tmp {t : Tmp} {v : Value} {rs : List ResultVar} {vs : List Value} : get e t = some v → Res P e H rs vs → Res P e H (.tmp t :: rs) (v :: vs)
  | cell {a : Tmp} {t T : TypeId} {b off m : Nat} {agg : Bool} {r r' : Segs} {v : Value} {rs : List ResultVar} {vs : List Value} : get e a = some (.pointer (some ⟨b, off, none⟩)) → (b, rowO r T) ∈ H → lay P t = some (agg, m) → Segs.sub r off m = some r' → readAs agg r' = some v →
      Res P e H rs vs → Res P e H (.cell a t :: rs) (v :: vs)

def resOne (tmps : Array Value) : ResultVar → Sem Value
  | .tmp t => pure (tmps.getD t undef)
  | .cell a t => do loadVar t (← asAddr (tmps.getD a undef))

theorem Res.run {a : Act} {w : World} (ha : Sat n e a) (hw : St M H w) {rs : List ResultVar} {vs : List Value} (h : Res P e H rs vs) : (rs.mapM (resOne a.tmps)).run P w = .ok vs w := by
  induction h with
  | nil => simp
  | @tmp t v rs vs hg hr ih =>
    have h1 : (resOne a.tmps (.tmp t)).run P w = .ok v w := by rw [← ha.slot _ _ hg]; rfl
    rw [List.mapM_cons, run_bind_ok h1, Sem.run_bind, ih, Result.andThen_ok]
    rfl
  | @cell x t T b off m agg r r' v rs vs hg hb hl hs hv hr ih =>
    obtain ⟨h1, h2⟩ := Segs.sub_cells hs
    obtain ⟨_, _, _, _, h3⟩ := Segs.sub_spec hs
    have := run_loadVar' (P := P) (hw.own _ _ hb) hl h1 h3 hv
    have h4 : (resOne a.tmps (.cell x t)).run P w = .ok v w := by
      show (do loadVar t (← asAddr (a.tmps.getD x undef)) : Sem Value).run P w = _
      rw [ha.slot _ _ hg, Sem.run_bind]; exact this
    rw [List.mapM_cons, run_bind_ok h4, Sem.run_bind, ih, Result.andThen_ok]
    rfl

def resV : List Value → Value
  | [v] => v
  | vs => .tuple vs.toArray

theorem K_end {n : Nat} {fn : Func} {R : Ending → World → Prop} {x : Exit} {vs : List Value} (hx : x = .normal ∨ x = .ret) (hr : Res P e H fn.results.toList vs) (h : ∀ w, St M H w → R (.returned (resV vs)) w) :
    K ⟨n, [], none, []⟩ (bodyPost P fn R) x (St M H) e := by
  intro a w ha hw
  have hrun : (results fn a.tmps).run P w = .ok (resV vs) w := by
    have h1 := Res.run (P := P) ha hw hr
    have h2 : results fn a.tmps = (do let vs ← fn.results.mapM (resOne a.tmps); pure (if h : vs.size = 1 then vs[0] else .tuple vs)) := by
      unfold results
      congr 1
    rw [h2, Array.mapM_eq_mapM_toList, Sem.run_bind]
    rw [Sem.run_map, h1]
    simp only [Result.andThen_ok]
    cases vs with
    | nil => rfl
    | cons v vs => cases vs <;> rfl
  rcases hx with rfl | rfl <;> exact ⟨ha.defers, _, hrun, h w hw⟩
end
end Go.Esp
