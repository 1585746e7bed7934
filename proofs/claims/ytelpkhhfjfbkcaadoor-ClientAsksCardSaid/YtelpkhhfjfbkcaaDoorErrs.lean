/-
  Interfaces: what they are asked for, compared, called through; functions of the library that make or turn a variable.
-/
import Derived.Test.YtelpkhhfjfbkcaaDoorIdent
import Derived.Stop.Asserts
set_option linter.unusedSimpArgs false
set_option linter.unusedVariables false
set_option linter.unnecessarySimpa false
namespace Go.Esp
section
variable {P : Program} {n : Sh} {ops : Array Oper} {Q : Exit → Act → World → Prop} {rest : List Nat} {M M' : Mem} {H H' H0 : Hp} {e : Env} {J S : World → Prop} {A : As} {i : Nat}
  {dst : Option Tmp} {d : Tmp} {op : Op} {ty : TypeId} {pos : String} {af : Array Edge} {gd : Option (Nat × Bool)}

theorem X_ta {x : Operand} {t1 t2 : TypeId} {ok : Bool} {v r : Value} (hi : ops[i]? = some ⟨some d, .typeAssert x t1 t2 ok, ty, pos, af, gd⟩) (hg : want ops e gd = some true) (hx : ev e x = some v)
    (hr : ∀ w, (Instr.typeAssert v t1 t2 ok).run P w = .ok r w) (hd : Nat.ble (d + 1) n.sz = true) (hk : XD P n ops Q rest J A ((d, r) :: e)) : XD P n ops Q (i :: rest) J A e :=
  X_read hi rfl hg (fun a' w ha _ => runs_of (by simp only [execOp, ha.ev hx]; exact run_v (hr w))) (fun a ha => ha.put hd _) hk

theorem X_ifeq {o : BinOp} {t t' : TypeId} {x y : Operand} {u v : Value} {c : Bool} (hi : ops[i]? = some ⟨some d, .binOp o t x y t', ty, pos, af, gd⟩) (hg : want ops e gd = some true)
    (ho : isEq o = true) (hx : ev e x = some u) (hy : ev e y = some v) (hr : ∀ w, (do eqGuard o t x y u v; binOp o t u v : Sem Value).run P w = .ok (.bool c) w) (hd : Nat.ble (d + 1) n.sz = true)
    (hk : XD P n ops Q rest J A ((d, .bool c) :: e)) : XD P n ops Q (i :: rest) J A e :=
  read_all (isEq_or ho) hi hg (fun a w ha => by rw [ha.ev hx, ha.ev hy]; exact hr w) hd hk

/-- The method of a value's own type. -/
def Meth (P : Program) (t : TypeId) (v : Value) (name : String) (f : FuncId) (r : Value) : Prop :=
  ∀ w, (method (P.types.size + Made.depth) t v name).run P w = .ok (f, r) w

theorem exec_inv {g : Operand} {name : String} {xs : Array Operand} {ats : Array TypeId} {a : Act} {w : World} {t : TypeId} {v r : Value} {f : FuncId} {vs : List Value} (hm : Meth P t v name f r)
    (hg : a.eval g = .iface t v) (hx : xs.toList.map a.eval = vs) :
    (execOp a.eval ⟨dst, .call ⟨.invoke g name, xs, ats⟩, ty, pos, af, gd⟩).run P w = (callFunc f (r :: vs).toArray).run P w := by
  simp only [execOp, resolve, pure_bind, invoke, hg]
  have e1 : (#[Value.iface t v] ++ xs.map a.eval)[0]? = some (.iface t v) := by
    rw [Array.getElem?_append_left (by simp)]; rfl
  have e2 : (#[Value.iface t v] ++ xs.map a.eval).extract 1 (#[Value.iface t v] ++ xs.map a.eval).size = vs.toArray := by
    apply Array.ext'
    rw [← hx]
    simp only [Array.toList_extract, Array.toList_append, Array.toList_map, Array.size_append, Array.size_map]
    simp
    exact List.take_of_length_le (by simp)
  rw [e1, e2]
  show (callMethod (.iface t v) name vs.toArray).run P w = _
  unfold callMethod
  show (do let p ← (program : Sem Program); let q ← method (p.types.size + Made.depth) t v name; callFunc q.1 (#[q.2] ++ vs.toArray) : Sem Next).run P w = _
  have hp : (program : Sem Program).run P w = .ok P w := rfl
  rw [run_bind_ok hp, run_bind_ok (hm w)]
  simp

theorem run_callFunc {f : FuncId} {vs : List Value} {w : World} (h : okFn P f = true) : (callFunc f vs.toArray).run P w = .ok (.enter f vs.toArray) w := callFunc_run h

/-- A method called through an interface: one that changes nothing that was there. -/
theorem X_invO {g : Operand} {name : String} {xs : List Operand} {ats : Array TypeId} {t : TypeId} {v r : Value} {f : FuncId} {vs : List Value} {Hin : Hp} {R : Mem → Value → Prop} (hi : ops[i]? = some ⟨some d, .call ⟨.invoke g name, xs.toArray, ats⟩, ty, pos, af, gd⟩) (hg : want ops e gd = some true)
    (hgv : ev e g = some (.iface t v)) (hm : Meth P t v name f r) (hf : okFn P f = true) (hx : evs e xs = some vs) (hc : Fo P f (r :: vs) M Hin R) (hH : Rem Hin H H0) (hd : Nat.ble (d + 1) n.sz = true)
    (hk : ∀ v M', M.le M' → R M' v → XD P n ops Q rest J ⟨M', H⟩ ((d, v) :: e)) : XD P n ops Q (i :: rest) J ⟨M, H⟩ e := by
  refine X_eff hi rfl hg (fun a F w ha hw => ?_)
  unfold Oper.does
  rw [exec_inv hm (ha.ev hgv) (by simpa using ha.evs hx), run_callFunc hf]
  exact (hc (F ++ H0) w (hw.perm0 ((hH.perm.append_left F).trans (swapF F Hin H0)))).mono fun e' w' ⟨v, M', he, hm, hs, hr⟩ => ⟨v, he, ⟨M', H⟩, _, hs.perm0 ((hH.perm.append_left F).trans (swapF F Hin H0)).symm, fun _ h => St.lower h hm, ha.put hd v, hk v M' hm hr⟩

/-- A method without a body called through an interface. -/
theorem X_invE {g : Operand} {name : String} {xs : List Operand} {ats : Array TypeId} {t : TypeId} {v r u : Value} {f : FuncId} {vs : List Value} {q : Array Value → Sem Value} (hi : ops[i]? = some ⟨some d, .call ⟨.invoke g name, xs.toArray, ats⟩, ty, pos, af, gd⟩) (hg : want ops e gd = some true)
    (hgv : ev e g = some (.iface t v)) (hm : Meth P t v name f r) (hf : Ext P f q) (hx : evs e xs = some vs) (hr : ∀ w, St M H w → (q (r :: vs).toArray).run P w = .ok u w) (hd : Nat.ble (d + 1) n.sz = true)
    (hk : XD P n ops Q rest J ⟨M, H⟩ ((d, u) :: e)) : XD P n ops Q (i :: rest) J ⟨M, H⟩ e := by
  refine X_eff hi rfl hg (fun a F w ha hw => ?_)
  unfold Oper.does
  rw [exec_inv hm (ha.ev hgv) (by simpa using ha.evs hx), hf, run_bind_ok (hr w (St.unframe hw))]
  exact ⟨⟨M, H⟩, _, hw, fun _ h => h, ha.put hd u, hk⟩

/-- A function without a body that makes a variable. -/
theorem X_extA {f : FuncId} {g : Array Value → Sem Value} {xs : List Operand} {ats : Array TypeId} {vs : List Value} {v : Nat → Value} {o : Obj} (hi : ops[i]? = some ⟨some d, .call ⟨.value (.func f), xs.toArray, ats⟩, ty, pos, af, gd⟩) (hg : want ops e gd = some true)
    (hf : Ext P f g) (hx : evs e xs = some vs) (hr : ∀ w : World, (g vs.toArray).run P w = .ok (v w.heap.size) (w.alloc o)) (hd : Nat.ble (d + 1) n.sz = true)
    (hk : ∀ b, XD P n ops Q rest J ⟨M, (b, o) :: H⟩ ((d, v b) :: e)) : XD P n ops Q (i :: rest) J ⟨M, H⟩ e := by
  refine X_eff hi rfl hg (fun a F w ha hw => ?_)
  exact does_ext hf (ha.evs hx) (hr w) ⟨⟨M, (w.heap.size, o) :: H⟩, _, (St.alloc hw o).perm0 List.perm_middle.symm, fun _ h => St.tail h, ha.put hd _, hk _⟩

/-- A function without a body that turns a variable of ours. -/
theorem X_extW {f : FuncId} {g : Array Value → Sem Value} {xs : List Operand} {ats : Array TypeId} {vs : List Value} {v : Value} {MJ : Mem} {HJ : Hp} (hi : ops[i]? = some ⟨some d, .call ⟨.value (.func f), xs.toArray, ats⟩, ty, pos, af, gd⟩) (hg : want ops e gd = some true)
    (hf : Ext P f g) (hx : evs e xs = some vs) (hr : ∀ F w, St M (F ++ H) w → ∃ w', (g vs.toArray).run P w = .ok v w' ∧ St M (F ++ H') w') (hJ : ∀ w, St M H' w → St MJ HJ w) (hd : Nat.ble (d + 1) n.sz = true)
    (hk : XD P n ops Q rest (St MJ HJ) ⟨M, H'⟩ ((d, v) :: e)) : XD P n ops Q (i :: rest) (St MJ HJ) ⟨M, H⟩ e := by
  refine X_effJ hi rfl hg (fun hSJ a F w ha hw => ?_)
  obtain ⟨w', h1, h2⟩ := hr F w hw
  exact does_ext hf (ha.evs hx) h1 ⟨⟨M, H'⟩, _, h2, hJ, ha.put hd _, hk⟩

/-- A load of a variable of the package, which never changes. -/
theorem X_load_glob {t : TypeId} {g : Nat} {c : Array Value} {T : TypeId} {fz : Nat × Nat} {v : Value} {MJ : Mem} {HJ : Hp} (hi : ops[i]? = some ⟨some d, .load t (.global g), ty, pos, af, gd⟩) (hg : want ops e gd = some true)
    (hb : MJ g = some (.cells c T fz)) (hl : lay P t = some (false, 1)) (hv : c[0]? = some v) (hd : Nat.ble (d + 1) n.sz = true) (hk : XD P n ops Q rest (St MJ HJ) A ((d, v) :: e)) : XD P n ops Q (i :: rest) (St MJ HJ) A e :=
  X_read hi rfl hg (fun a' w ha hw => runs_of (by
    simp only [execOp]
    have e1 : a'.eval (.global g) = .pointer (some ⟨g, 0, none⟩) := rfl
    rw [e1]
    refine run_v (run_loadAt' (r := [.one v]) (hw.mem _ _ hb) hl ?_ rfl rfl)
    exact drop_take_one (by simpa using hv))) (fun a ha => ha.put hd _) hk

theorem guard_iface {o : BinOp} {ti t1 t2 : TypeId} {x y : Operand} {u v : Value} {w : World} : (eqGuard o ti x y (.iface t1 u) (.iface t2 v)).run P w = .ok () w := by
  unfold eqGuard
  cases o <;> rfl

/-- Two interface values of different types. -/
theorem run_eq_apart {ti t1 t2 : TypeId} {ms : Array (String × TypeId)} {x y : Operand} {u v : Value} (hi : P.underlying ti = some (.interface ms)) (hne : t1 ≠ t2) (w : World) :
    (do eqGuard .eql ti x y (.iface t1 u) (.iface t2 v); binOp .eql ti (.iface t1 u) (.iface t2 v) : Sem Value).run P w = .ok (.bool false) w := by
  rw [run_bind_ok guard_iface]
  exact run_eql_iface_types t1 t2 u v hi hne w

/-- Two codes. -/
theorem run_eq_code {ti tc : TypeId} {ms : Array (String × TypeId)} {x y : Operand} {c z : Int} {m : Nat} (hi : P.underlying ti = some (.interface ms)) (hc : (P.info? tc).map (·.comparable) = some true) (hk : kindsOf P m tc = some [.i .i64]) (hm : Nat.ble m 9999 = true)
    (hl : lay P tc = some (true, 1)) (w : World) :
    (do eqGuard .eql ti x y (.iface tc (aggV [.one (.int .i64 c)])) (.iface tc (aggV [.one (.int .i64 z)])); binOp .eql ti (.iface tc (aggV [.one (.int .i64 c)])) (.iface tc (aggV [.one (.int .i64 z)])) : Sem Value).run P w = .ok (.bool (decide (c = z))) w := by
  rw [run_bind_ok guard_iface]
  obtain ⟨dd, it, hud, hit, _, hag⟩ := lay_spec hl
  have mk1 : ∀ R, mkV P tc (Segs.cells R) = aggV R := fun R => by
    unfold mkV; rw [hud]
    cases dd <;> simp [aggD] at hag <;> rfl
  have hm' := Nat.le_of_ble_eq_true hm
  obtain ⟨r, hr, hiff⟩ := run_equalK (9999 - m) m tc _ hk w (Segs.cells [.one (.int .i64 c)]) (Segs.cells [.one (.int .i64 z)]) ⟨rfl, trivial⟩ ⟨rfl, trivial⟩
  rw [mk1, mk1, show 9999 - m + m = 9999 by omega] at hr
  have e : r = decide (c = z) := by
    have : (Segs.cells [.one (.int .i64 c)] = Segs.cells [.one (.int .i64 z)]) ↔ c = z := by simp [Segs.cells, Seg.cells]
    rw [this] at hiff
    by_cases h : c = z <;> cases r <;> simp_all
  subst e
  rw [hit] at hc
  have hcmp : it.comparable = true := by simpa using hc
  show (do pure (.bool (← Op.equalIn (9999 + 1) ti (.iface tc (aggV [.one (.int .i64 c)])) (.iface tc (aggV [.one (.int .i64 z)])))) : Sem Value).run P w = _
  have : (Op.equalIn (9999 + 1) ti (.iface tc (aggV [.one (.int .i64 c)])) (.iface tc (aggV [.one (.int .i64 z)]))).run P w = .ok (decide (c = z)) w := by
    unfold Op.equalIn
    rw [run_bind_ok (run_underlying' hi)]
    simp [typeInfo, hit, hcmp, hr]
  rw [run_bind_ok this]
  rfl
end
end Go.Esp
