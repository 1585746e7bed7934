/-
  Maps with ints as keys, that are ours.
-/
import Derived.Test.YtelpkhhfjfbkcaaDoorSlices3
set_option linter.unusedSimpArgs false
set_option linter.unusedVariables false
set_option linter.unnecessarySimpa false
namespace Go.Esp

/-- What a map holds, in the order in which its keys came. -/
abbrev IM := List (Int × Value)

def imGet (l : IM) (k : Int) : Option Value := match l with
  | [] => none
  | (j, v) :: r => if k = j then some v else imGet r k

/-- k turned to v, where k is there. -/
def imSet (l : IM) (k : Int) (v : Value) : IM := match l with
  | [] => []
  | (j, u) :: r => if k = j then (j, v) :: r else (j, u) :: imSet r k v

def imDel (l : IM) (k : Int) : IM := match l with
  | [] => []
  | (j, u) :: r => if k = j then r else (j, u) :: imDel r k

def imPut (l : IM) (k : Int) (v : Value) : IM := match imGet l k with
  | some _ => imSet l k v
  | none => l ++ [(k, v)]

def kvs (es : Array MapEntry) : List (Value × Value) := es.toList.map fun x => (x.key, x.val)

def imO (o : Obj) (l : IM) : Prop := ∃ es clock, o = .map es clock ∧ kvs es = l.map fun p => (.int .i64 p.1, p.2)

theorem findNow_int (k : Int) : ∀ (es : List MapEntry) (l : IM) (i : Nat), es.map (fun x => (x.key, x.val)) = l.map (fun p => (.int .i64 p.1, p.2)) →
    Instr.findNow (.int .i64) (.int .i64 k) es i = some (match imGet l k with | some v => some (i + (l.findIdx fun p => k = p.1), v) | none => none)
  | [], [], i, _ => rfl
  | [], _ :: _, _, h => by simp at h
  | _ :: _, [], _, h => by simp at h
  | x :: es, (j, v) :: l, i, h => by
    simp only [List.map_cons, List.cons.injEq, Prod.mk.injEq] at h
    obtain ⟨⟨h1, h2⟩, h3⟩ := h
    unfold Instr.findNow
    rw [h1]
    simp only [Instr.sameNow, if_true]
    by_cases e : k = j
    · subst e
      simp [imGet, List.findIdx_cons, h2]
    · have : (k == j) = false := by simp [e]
      simp only [this]
      rw [findNow_int k es l (i + 1) h3]
      simp only [imGet, e, if_false]
      cases imGet l k with
      | none => rfl
      | some u => simp [List.findIdx_cons, e]; omega

theorem imGet_lt {k : Int} : ∀ {l : IM} {v : Value}, imGet l k = some v → (l.findIdx fun p => k = p.1) < l.length ∧ ∃ q, l[l.findIdx fun p => k = p.1]? = some (k, q) ∧ q = v
  | [], _, h => by simp [imGet] at h
  | (j, u) :: l, v, h => by
    unfold imGet at h
    by_cases e : k = j
    · subst e; simp at h; subst h; simp [List.findIdx_cons]
    · simp only [e, if_false] at h
      obtain ⟨h1, q, h2, h3⟩ := imGet_lt h
      simp only [List.findIdx_cons, e, decide_false, cond_false, List.length_cons]
      exact ⟨by omega, q, by simpa using h2, h3⟩

section
variable {P : Program} {w : World}

theorem run_checkKey_int {k : IntKind} {t : TypeId} {b : Bool} {q : IntKind} {z : Int} (h : P.underlying t = some (.int q)) : (Instr.checkKey b 10000 t (.int k z)).run P w = .ok () w := by
  show (Instr.checkKey b (9999 + 1) t (.int k z)).run P w = .ok () w
  unfold Instr.checkKey
  rw [run_bind_ok (run_underlying' h)]
  rfl

theorem run_findKey {t : TypeId} {es : Array MapEntry} {l : IM} {k : Int} (h : P.underlying t = some (.int .i64)) (hl : kvs es = l.map fun p => (.int .i64 p.1, p.2)) :
    (Instr.findKey t (.int .i64 k) es.toList).run P w = .ok (match imGet l k with | some v => some (l.findIdx fun p => k = p.1, v) | none => none) w := by
  unfold Instr.findKey
  rw [run_bind_ok (run_underlying' h), findNow_int k es.toList l 0 hl]
  simp only [Nat.zero_add]
  cases imGet l k <;> rfl

/-- A map's type: ints as keys. -/
def mapOf (P : Program) (t : TypeId) : Option (TypeId × TypeId) := match P.underlying t with
  | some (.map k el) => match P.underlying k with
    | some (.int .i64) => some (k, el)
    | _ => none
  | _ => none

theorem mapOf_spec {t k el : TypeId} (h : mapOf P t = some (k, el)) : P.underlying t = some (.map k el) ∧ P.underlying k = some (.int .i64) := by
  unfold mapOf at h
  split at h
  · rename_i k' el' h1
    split at h
    · rename_i h2
      simp only [Option.some.injEq, Prod.mk.injEq] at h
      obtain ⟨rfl, rfl⟩ := h
      exact ⟨h1, h2⟩
    · cases h
  · cases h

theorem run_getObj' {b : Nat} {es : Array MapEntry} {c : Nat} (h : w.heap[b]? = some (.map es c)) : (getObj b).run P w = .ok (.map es c) w := by
  simp [getObj, Sem.run, h]

theorem run_setObj' {b : Nat} {es : Array MapEntry} {c : Nat} (h : w.heap[b]? = some (.map es c)) (o : Obj) : (setObj b o).run P w = .ok () { w with heap := w.heap.setIfInBounds b o } := by
  simp [setObj, Sem.run, h]

theorem setIn_self {b : Nat} {o o' : Obj} (h : w.heap[b]? = some o') : ({ w with heap := w.heap.setIfInBounds b o } : World).heap[b]? = some o := by
  have := (Array.getElem?_eq_some_iff.1 h).1
  simp [this]

theorem setIn_other {b c : Nat} {o : Obj} (h : c ≠ b) : ({ w with heap := w.heap.setIfInBounds b o } : World).heap[c]? = w.heap[c]? := by
  simp [Array.getElem?_setIfInBounds_ne (Ne.symm h)]

theorem run_lookup' {t k el : TypeId} {b : Nat} {o : Obj} {l : IM} {z : Int} {zv : Value} (ht : mapOf P t = some (k, el)) (hz : zeroOf P el = some zv) (hb : w.heap[b]? = some o) (ho : imO o l) (ok : Bool) :
    (Instr.lookup t (.map (some b)) (.int .i64 z) ok).run P w = .ok (match ok with | true => .tuple #[(imGet l z).getD zv, .bool (imGet l z).isSome] | false => (imGet l z).getD zv) w := by
  obtain ⟨h1, h2⟩ := mapOf_spec ht
  obtain ⟨es, c, rfl, hk⟩ := ho
  have hzv : (zeroValue el).run P w = .ok zv w := by
    unfold zeroOf at hz
    split at hz
    · rename_i it hit; simp [zeroValue, typeInfo, hit, hz]
    · cases hz
  unfold Instr.lookup
  rw [run_bind_ok (run_underlying' h1)]
  simp only []
  rw [run_bind_ok (run_getObj' hb)]
  simp only []
  rw [run_bind_ok (show (pure es : Sem (Array MapEntry)).run P w = .ok es w from rfl), run_bind_ok (run_checkKey_int h2), run_bind_ok (run_findKey h2 hk)]
  cases hg : imGet l z with
  | some v => cases ok <;> rfl
  | none =>
    simp only []
    rw [run_bind_ok hzv]
    cases ok <;> rfl

theorem kvs_push (es : Array MapEntry) (x : MapEntry) : kvs (es.push x) = kvs es ++ [(x.key, x.val)] := by simp [kvs]

theorem kvs_modify {l : IM} {k : Int} {v : Value} : ∀ {es : List MapEntry}, es.map (fun x => (x.key, x.val)) = l.map (fun p => (Value.int .i64 p.1, p.2)) → (imGet l k).isSome = true →
    (es.modify (l.findIdx fun p => k = p.1) fun x => { x with key := .int .i64 k, val := v }).map (fun x => (x.key, x.val)) = (imSet l k v).map fun p => (.int .i64 p.1, p.2) := by
  induction l with
  | nil => intro es _ h; simp [imGet] at h
  | cons p l ih =>
    intro es h hs
    obtain ⟨j, u⟩ := p
    cases es with
    | nil => simp at h
    | cons x es =>
      simp only [List.map_cons, List.cons.injEq, Prod.mk.injEq] at h
      obtain ⟨⟨h1, h2⟩, h3⟩ := h
      by_cases e : k = j
      · subst e
        simp [List.findIdx_cons, imSet, h3]
      · simp only [imGet, e, if_false] at hs
        simp only [List.findIdx_cons, e, decide_false, cond_false, imSet, if_false, List.modify_succ_cons, List.map_cons, h1, h2, ih h3 hs]

theorem kvs_erase {l : IM} {k : Int} : ∀ {es : List MapEntry}, es.map (fun x => (x.key, x.val)) = l.map (fun p => (Value.int .i64 p.1, p.2)) → (imGet l k).isSome = true →
    (es.eraseIdx (l.findIdx fun p => k = p.1)).map (fun x => (x.key, x.val)) = (imDel l k).map fun p => (.int .i64 p.1, p.2) := by
  induction l with
  | nil => intro es _ h; simp [imGet] at h
  | cons p l ih =>
    intro es h hs
    obtain ⟨j, u⟩ := p
    cases es with
    | nil => simp at h
    | cons x es =>
      simp only [List.map_cons, List.cons.injEq, Prod.mk.injEq] at h
      obtain ⟨⟨h1, h2⟩, h3⟩ := h
      by_cases e : k = j
      · subst e
        simp [List.findIdx_cons, imDel, h3]
      · simp only [imGet, e, if_false] at hs
        simp only [List.findIdx_cons, e, decide_false, cond_false, imDel, if_false, List.eraseIdx_cons_succ, List.map_cons, h1, h2, ih h3 hs]

theorem imDel_none {k : Int} : ∀ {l : IM}, imGet l k = none → imDel l k = l
  | [], _ => rfl
  | (j, u) :: l, h => by
    by_cases e : k = j
    · simp [imGet, e] at h
    · simp only [imGet, e, if_false] at h
      simp [imDel, e, imDel_none h]

theorem run_mapUpdate' {t k el : TypeId} {b : Nat} {o : Obj} {l : IM} {z : Int} {v : Value} (ht : mapOf P t = some (k, el)) (hb : w.heap[b]? = some o) (ho : imO o l) :
    ∃ o', (Instr.mapUpdate t (.map (some b)) (.int .i64 z) v).run P w = .ok () { w with heap := w.heap.setIfInBounds b o' } ∧ imO o' (imPut l z v) := by
  obtain ⟨h1, h2⟩ := mapOf_spec ht
  obtain ⟨es, c, rfl, hk⟩ := ho
  unfold Instr.mapUpdate
  rw [run_bind_ok (run_underlying' h1)]
  simp only []
  rw [run_bind_ok (run_getObj' hb)]
  simp only []
  rw [run_bind_ok (run_checkKey_int h2), run_bind_ok (run_findKey h2 hk)]
  cases hg : imGet l z with
  | some u =>
    simp only []
    obtain ⟨hlt, q, hq, _⟩ := imGet_lt hg
    have hes : ∃ x, es[l.findIdx fun p => z = p.1]? = some x ∧ x.key = .int .i64 z := by
      have hlen : es.size = l.length := by have := congrArg List.length hk; simpa [kvs] using this
      have h3 : (kvs es)[l.findIdx fun p => z = p.1]? = some (.int .i64 z, q) := by rw [hk]; simp [hq]
      simp only [kvs, List.getElem?_map, Option.map_eq_some_iff] at h3
      obtain ⟨x, hx, hxx⟩ := h3
      simp only [Prod.mk.injEq] at hxx
      exact ⟨x, by simpa using hx, hxx.1⟩
    obtain ⟨x, hx, hxk⟩ := hes
    have hst : (Instr.keyThatStays (((es[l.findIdx fun p => z = p.1]?).map (·.key)).getD (.int .i64 z)) (.int .i64 z)).run P w = .ok (.int .i64 z) w := by
      rw [hx]
      simp only [Option.map_some, Option.getD_some, hxk]
      unfold Instr.keyThatStays
      have : Instr.sameBits 10000 (.int .i64 z) (.int .i64 z) = true := by
        show Instr.sameBits (9999 + 1) _ _ = true
        simp [Instr.sameBits]
      simp only [this, if_true]
      rfl
    rw [run_bind_ok hst]
    refine ⟨_, run_setObj' hb _, _, _, rfl, ?_⟩
    simp only [imPut, hg]
    have := kvs_modify (v := v) (l := l) (k := z) (es := es.toList) hk (by simp [hg])
    simpa [kvs] using this
  | none =>
    simp only []
    refine ⟨_, run_setObj' hb _, _, _, rfl, ?_⟩
    simp [imPut, hg, kvs_push, hk]

theorem run_delete' {t k el ty : TypeId} {b : Nat} {o : Obj} {l : IM} {z : Int} {ats : Array TypeId} (hat : ats[0]? = some t) (ht : mapOf P t = some (k, el)) (hb : w.heap[b]? = some o) (ho : imO o l) :
    ∃ o', (Builtin.delete_ ats ty #[.map (some b), .int .i64 z]).run P w = .ok (.tuple #[]) { w with heap := w.heap.setIfInBounds b o' } ∧ imO o' (imDel l z) := by
  obtain ⟨h1, h2⟩ := mapOf_spec ht
  obtain ⟨es, c, rfl, hk⟩ := ho
  unfold Builtin.delete_
  have e1 : (#[Value.map (some b), Value.int .i64 z])[0]? = some (.map (some b)) := rfl
  have e2 : (#[Value.map (some b), Value.int .i64 z])[1]? = some (.int .i64 z) := rfl
  simp only [hat, e1, e2]
  rw [run_bind_ok (run_underlying' h1)]
  simp only []
  rw [run_bind_ok (run_getObj' hb)]
  simp only []
  rw [run_bind_ok (run_checkKey_int h2), run_bind_ok (run_findKey h2 hk)]
  cases hg : imGet l z with
  | some u =>
    refine ⟨.map (es.eraseIdxIfInBounds (l.findIdx fun p => z = p.1)) c, ?_, _, _, rfl, ?_⟩
    · simp only []
      rw [run_bind_ok (run_setObj' hb _)]; rfl
    · have := kvs_erase (l := l) (k := z) (es := es.toList) hk (by simp [hg])
      have h3 : (es.eraseIdxIfInBounds (l.findIdx fun p => z = p.1)).toList = es.toList.eraseIdx (l.findIdx fun p => z = p.1) := by simp
      simp only [kvs, h3]; exact this
  | none =>
    refine ⟨.map es c, ?_, _, _, rfl, by rw [imDel_none hg]; exact hk⟩
    simp only []
    rw [run_bind_ok (run_setObj' hb _)]; rfl
end

section
variable {P : Program} {n : Sh} {ops : Array Oper} {Q : Exit → Act → World → Prop} {rest : List Nat} {M M' : Mem} {H H' H0 : Hp} {e : Env} {J S : World → Prop} {A : As} {i : Nat}
  {dst : Option Tmp} {d : Tmp} {op : Op} {ty : TypeId} {pos : String} {af : Array Edge} {gd : Option (Nat × Bool)}

theorem X_lookup {t k el : TypeId} {x y : Operand} {b : Nat} {z : Int} {zv v : Value} {o : Obj} {l : IM} {MJ : Mem} {HJ : Hp} (hi : ops[i]? = some ⟨some d, .lookup t x y false, ty, pos, af, gd⟩) (hg : want ops e gd = some true)
    (hx : ev e x = some (.map (some b))) (hy : ev e y = some (.int .i64 z)) (ht : mapOf P t = some (k, el)) (hz : zeroOf P el = some zv) (hb : (b, o) ∈ HJ) (ho : imO o l) (hv : (imGet l z).getD zv = v) (hd : Nat.ble (d + 1) n.sz = true)
    (hk : XD P n ops Q rest (St MJ HJ) A ((d, v) :: e)) : XD P n ops Q (i :: rest) (St MJ HJ) A e :=
  X_read hi rfl hg (fun a' w ha hw => runs_of (by
    simp only [execOp, ha.ev hx, ha.ev hy]
    subst hv
    exact run_v (run_lookup' ht hz (hw.own _ _ hb) ho false))) (fun a ha => ha.put hd _) hk

theorem X_lookup2 {t k el : TypeId} {x y : Operand} {b : Nat} {z : Int} {zv v : Value} {c : Bool} {o : Obj} {l : IM} {MJ : Mem} {HJ : Hp} (hi : ops[i]? = some ⟨some d, .lookup t x y true, ty, pos, af, gd⟩) (hg : want ops e gd = some true)
    (hx : ev e x = some (.map (some b))) (hy : ev e y = some (.int .i64 z)) (ht : mapOf P t = some (k, el)) (hz : zeroOf P el = some zv) (hb : (b, o) ∈ HJ) (ho : imO o l) (hv : (imGet l z).getD zv = v) (hc : (imGet l z).isSome = c) (hd : Nat.ble (d + 1) n.sz = true)
    (hk : XD P n ops Q rest (St MJ HJ) A ((d, .tuple #[v, .bool c]) :: e)) : XD P n ops Q (i :: rest) (St MJ HJ) A e :=
  X_read hi rfl hg (fun a' w ha hw => runs_of (by
    simp only [execOp, ha.ev hx, ha.ev hy]
    subst hv; subst hc
    exact run_v (run_lookup' ht hz (hw.own _ _ hb) ho true))) (fun a ha => ha.put hd _) hk

theorem X_mapUpdate {t k el : TypeId} {x y u : Operand} {b : Nat} {z : Int} {v : Value} {o : Obj} {l : IM} (hi : ops[i]? = some ⟨none, .mapUpdate t x y u, ty, pos, af, gd⟩) (hg : want ops e gd = some true)
    (hx : ev e x = some (.map (some b))) (hy : ev e y = some (.int .i64 z)) (hu : ev e u = some v) (ht : mapOf P t = some (k, el)) (ho : imO o l) (hH : ∀ o', Upd b o o' H (H' ++ (b, o') :: H0))
    (hk : ∀ o', imO o' (imPut l z v) → XD P n ops Q rest (St M (H' ++ (b, o') :: H0)) ⟨M, H' ++ (b, o') :: H0⟩ e) (hnw : n.wrs.contains i = false := by rfl) : XD P n ops Q (i :: rest) J ⟨M, H⟩ e := by
  refine X_mut hi rfl hg (fun a w ha hw => ?_) hnw
  have hb := hw.own b o ((hH o).mem)
  obtain ⟨o', hr, ho'⟩ := run_mapUpdate' (P := P) (z := z) (v := v) ht hb ho
  unfold Oper.does
  have : (execOp a.eval ⟨none, .mapUpdate t x y u, ty, pos, af, gd⟩).run P w = .ok .skip { w with heap := w.heap.setIfInBounds b o' } := by
    simp only [execOp, ha.ev hx, ha.ev hy, ha.ev hu]
    rw [run_bind_ok hr]; rfl
  rw [this]
  exact ⟨⟨M, H' ++ (b, o') :: H0⟩, e, St.upd hw (hH o') (setIn_self hb) (fun c hc q hq => by rw [setIn_other hc]; exact hq) (SameIO.refl _), ha, hk o' ho'⟩

theorem X_delete {t k el : TypeId} {x y : Operand} {b : Nat} {z : Int} {o : Obj} {l : IM} {ats : Array TypeId} (hi : ops[i]? = some ⟨none, .call ⟨.builtin .delete, #[x, y], ats⟩, ty, pos, af, gd⟩) (hg : want ops e gd = some true)
    (hx : ev e x = some (.map (some b))) (hy : ev e y = some (.int .i64 z)) (hat : ats[0]? = some t) (ht : mapOf P t = some (k, el)) (ho : imO o l) (hH : ∀ o', Upd b o o' H (H' ++ (b, o') :: H0))
    (hk : ∀ o', imO o' (imDel l z) → XD P n ops Q rest (St M (H' ++ (b, o') :: H0)) ⟨M, H' ++ (b, o') :: H0⟩ e) (hnw : n.wrs.contains i = false := by rfl) : XD P n ops Q (i :: rest) J ⟨M, H⟩ e := by
  refine X_mut hi rfl hg (fun a w ha hw => ?_) hnw
  have hb := hw.own b o ((hH o).mem)
  obtain ⟨o', hr, ho'⟩ := run_delete' (P := P) (ty := ty) (z := z) hat ht hb ho
  unfold Oper.does
  have : (execOp a.eval ⟨none, .call ⟨.builtin .delete, #[x, y], ats⟩, ty, pos, af, gd⟩).run P w = .ok (.value (.tuple #[])) { w with heap := w.heap.setIfInBounds b o' } := by
    simp only [execOp, resolve]
    simp only [invoke, builtin]
    have e1 : #[x, y].map a.eval = #[.map (some b), .int .i64 z] := by simp [ha.ev hx, ha.ev hy]
    rw [e1, Sem.run_bind]
    show (Result.ok _ w).andThen _ = _
    rw [Result.andThen_ok]
    exact run_v hr
  rw [this]
  exact ⟨⟨M, H' ++ (b, o') :: H0⟩, e, St.upd hw (hH o') (setIn_self hb) (fun c hc q hq => by rw [setIn_other hc]; exact hq) (SameIO.refl _), ha, hk o' ho'⟩
end
end Go.Esp
