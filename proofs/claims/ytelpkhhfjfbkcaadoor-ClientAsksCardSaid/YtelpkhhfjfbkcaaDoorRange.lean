/-
  Ranges over functions.
-/
import Derived.Test.YtelpkhhfjfbkcaaDoorMaps
import Derived.RangeFuncIn
import Derived.RangeFuncRecord
import Derived.RangeFuncLeaves
set_option linter.unusedSimpArgs false
set_option linter.unusedVariables false
set_option linter.unnecessarySimpa false
namespace Go.Esp

/-- A call of yield: one round. -/
def Yl (P : Program) (l : Nat) (vs : List Value) (w : World) (R : Value → World → Prop) : Prop :=
  ∃ f tmps assign body, (Instr.yield l vs.toArray).run P w = .ok (.round l f tmps assign body) w ∧ RoundIn (Fr none) 0 P l f tmps assign body w fun e w' => ∃ v, e = .returned v ∧ R v w'

/-- What an iterator is told of the rounds: J behind each that goes on, Jx behind one that does not. -/
def Rounds {α : Type} (P : Program) (l : Nat) (enc : α → List Value) (xs : List α) (M : Mem) (J Jx : List α → Mem → Hp → Prop) : Prop :=
  ∀ pre x post M' Hb F w, xs = pre ++ x :: post → M.le M' → J pre M' Hb → St M' (Hb ++ F) w → Yl P l (enc x) w fun v w' => ∃ M'' Hb', M'.le M'' ∧ St M'' (Hb' ++ F) w' ∧
    ((v = .bool true ∧ J (pre ++ [x]) M'' Hb') ∨ (v = .bool false ∧ Jx (pre ++ [x]) M'' Hb'))

/-- An iterator: it hands on xs, one by one; Hi: blocks of its own. -/
def Seqs {α : Type} (P : Program) (g : FuncId) (caps : List Value) (enc : α → List Value) (xs : List α) (M : Mem) (Hi : Hp) : Prop :=
  ∀ (l : Nat) (J Jx : List α → Mem → Hp → Prop), Rounds P l enc xs M J Jx → ∀ M' Hb F w, M.le M' → J [] M' Hb → St M' (Hb ++ (Hi ++ F)) w →
    Calls P g (Value.func (.yield l) #[] #[] :: caps).toArray w fun e w' => ∃ v M'' Hb', e = .returned v ∧ M'.le M'' ∧ St M'' (Hb' ++ (Hi ++ F)) w' ∧ (J xs M'' Hb' ∨ ∃ pre post, xs = pre ++ post ∧ Jx pre M'' Hb')

section
variable {P : Program} {n : Sh} {ops : Array Oper} {Q : Exit → Act → World → Prop} {rest : List Nat} {M M' : Mem} {H H' H0 : Hp} {e : Env} {J S : World → Prop} {A : As} {i : Nat}
  {dst : Option Tmp} {d : Tmp} {op : Op} {ty : TypeId} {pos : String} {af : Array Edge} {gd : Option (Nat × Bool)}

theorem X_makeFunc {fn : Go.Fn} {xs ys : List Operand} {vs us : List Value} (hi : ops[i]? = some ⟨some d, .makeFunc fn xs.toArray ys.toArray, ty, pos, af, gd⟩) (hg : want ops e gd = some true)
    (hx : evs e xs = some vs) (hy : evs e ys = some us) (hd : Nat.ble (d + 1) n.sz = true) (hk : XD P n ops Q rest J A ((d, .func fn vs.toArray us.toArray) :: e)) : XD P n ops Q (i :: rest) J A e :=
  X_pure hi rfl hg (fun a' w ha => runs_of (by
    simp only [execOp]
    refine run_v ?_
    have e1 : xs.toArray.map a'.eval = vs.toArray := by rw [← ha.evs hx]; simp
    have e2 : ys.toArray.map a'.eval = us.toArray := by rw [← ha.evs hy]; simp
    rw [e1, e2]; rfl)) (fun a ha => ha.put hd _) hk

/-- The call of yield in an iterator's body. -/
theorem X_yield {α : Type} {g : Operand} {xs : List Operand} {ats : Array TypeId} {vs : List Value} {l : Nat} {enc : α → List Value} {all pre post : List α} {x : α} {M0 : Mem} {Hb F : Hp} {Jr Jx : List α → Mem → Hp → Prop} {MJ : Mem} {HJ : Hp}
    (hi : ops[i]? = some ⟨some d, .call ⟨.value g, xs.toArray, ats⟩, ty, pos, af, gd⟩) (hg : want ops e gd = some true) (hcl : clOf P (.call ⟨.value g, xs.toArray, ats⟩) = .eff)
    (hf : ev e g = some (.func (.yield l) #[] #[])) (hx : evs e xs = some vs) (hR : Rounds P l enc all M0 Jr Jx) (hall : all = pre ++ x :: post) (hm : M0.le M) (hJr : Jr pre M Hb) (hH : Rem Hb H F) (hv : enc x = vs)
    (hJ : ∀ M' Hb' w, M.le M' → St M' (Hb' ++ F) w → St MJ HJ w) (hd : Nat.ble (d + 1) n.sz = true)
    (hk1 : ∀ M' Hb', M.le M' → Jr (pre ++ [x]) M' Hb' → XD P n ops Q rest (St MJ HJ) ⟨M', Hb' ++ F⟩ ((d, .bool true) :: e))
    (hk2 : ∀ M' Hb', M.le M' → Jx (pre ++ [x]) M' Hb' → XD P n ops Q rest (St MJ HJ) ⟨M', Hb' ++ F⟩ ((d, .bool false) :: e)) : XD P n ops Q (i :: rest) (St MJ HJ) ⟨M, H⟩ e := by
  refine X_effJ hi hcl hg (fun _ a G w ha hw => ?_)
  obtain ⟨f, tmps, assign, body, hrun, hround⟩ := hR pre x post M Hb (G ++ F) w hall hm hJr (hw.perm0 ((hH.perm.append_left G).trans (swapF G Hb F)))
  unfold Oper.does
  have : (execOp a.eval ⟨some d, .call ⟨.value g, xs.toArray, ats⟩, ty, pos, af, gd⟩).run P w = .ok (.round l f tmps assign body) w := by
    simp only [execOp, resolve, ha.ev hf]
    rw [Sem.run_bind]
    show (Result.ok _ w).andThen _ = _
    rw [Result.andThen_ok]
    have e1 : xs.toArray.map a.eval = vs.toArray := by rw [← ha.evs hx]; simp
    show (Instr.yield l (#[] ++ xs.toArray.map a.eval)).run P w = _
    rw [e1, ← hv]
    simpa using hrun
  rw [this]
  refine hround.mono fun e' w' ⟨v, he, M'', Hb', h1, h2, h3⟩ => ⟨v, he, ⟨M'', Hb' ++ F⟩, ?_⟩
  rcases h3 with ⟨rfl, h3⟩ | ⟨rfl, h3⟩
  · exact ⟨_, h2.perm0 (swapF G Hb' F).symm, fun u hu => hJ M'' Hb' u h1 hu, ha.put hd _, hk1 M'' Hb' h1 h3⟩
  · exact ⟨_, h2.perm0 (swapF G Hb' F).symm, fun u hu => hJ M'' Hb' u h1 hu, ha.put hd _, hk2 M'' Hb' h1 h3⟩

/-- How a round's body is left. -/
def RoundQ {α : Type} (l : Nat) (o : Obj) (I : List α → Mem → Hp → Prop) (Ix : Code → List α → Mem → Hp → Prop) (xs : List α) (M : Mem) (F : Hp) : Exit → Act → World → Prop
  | .normal, _, w => ∃ M' Hu, M.le M' ∧ St M' ((l, o) :: (Hu ++ F)) w ∧ I xs M' Hu
  | .ret, _, w => ∃ M' Hu, M.le M' ∧ St M' ((l, o) :: (Hu ++ F)) w ∧ Ix .ret xs M' Hu
  | .exit id, _, w => ∃ M' Hu, M.le M' ∧ St M' ((l, o) :: (Hu ++ F)) w ∧ Ix (.exit id) xs M' Hu
  | _, _, _ => False

theorem K_rnd {α : Type} {l : Nat} {o : Obj} {I : List α → Mem → Hp → Prop} {Ix : Code → List α → Mem → Hp → Prop} {xs : List α} {F Hu : Hp} {M0 : Mem} (hm : M0.le M) (hS : ∀ w, S w → St M ((l, o) :: (Hu ++ F)) w) (hI : I xs M Hu) :
    K n (RoundQ l o I Ix xs M0 F) .normal S e := fun _ _ _ hw => ⟨M, Hu, hm, hS _ hw, hI⟩
theorem K_rndX {α : Type} {l id : Nat} {o : Obj} {I : List α → Mem → Hp → Prop} {Ix : Code → List α → Mem → Hp → Prop} {xs : List α} {F Hu : Hp} {M0 : Mem} (hm : M0.le M) (hS : ∀ w, S w → St M ((l, o) :: (Hu ++ F)) w) (hI : Ix (.exit id) xs M Hu) :
    K n (RoundQ l o I Ix xs M0 F) (.exit id) S e := fun _ _ _ hw => ⟨M, Hu, hm, hS _ hw, hI⟩
theorem K_rndR {α : Type} {l : Nat} {o : Obj} {I : List α → Mem → Hp → Prop} {Ix : Code → List α → Mem → Hp → Prop} {xs : List α} {F Hu : Hp} {M0 : Mem} (hm : M0.le M) (hS : ∀ w, S w → St M ((l, o) :: (Hu ++ F)) w) (hI : Ix .ret xs M Hu) :
    K n (RoundQ l o I Ix xs M0 F) .ret S e := fun _ _ _ hw => ⟨M, Hu, hm, hS _ hw, hI⟩

theorem putObj_st {l : Nat} {o o' : Obj} {w : World} (h : St M ((l, o) :: H) w) : St M ((l, o') :: H) (w.putObj l o') :=
  h.upd .head (World.putObj_heap_same (h.lt (.head _))) (fun c hc x hx => by rw [World.putObj_heap_other hc]; exact hx) (SameIO.refl _)

/-- The slots of a round: those of the frame, and what yield was handed. -/
def rEnv : List Tmp → List Value → Env → Env
  | p :: ps, v :: vs, e => rEnv ps vs ((p, v) :: e)
  | _, _, e => e

theorem round_sat {ro : Option Nat} : ∀ {ps : List Tmp} {vs : List Value} {m : Nat} {e : Env} {t : Array Value}, Sat ⟨m, [], ro, []⟩ e ⟨t, []⟩ → (∀ p ∈ ps, p < m) →
    Sat ⟨m, [], ro, []⟩ (rEnv ps vs e) ⟨(ps.zip vs).foldl (fun tmps (p : Tmp × Value) => tmps.setIfInBounds p.1 p.2) t, []⟩ := by
  intro ps
  induction ps with
  | nil => intro vs m e t h _; simpa [rEnv] using h
  | cons p ps ih =>
    intro vs m e t h hp
    cases vs with
    | nil => simpa [rEnv] using h
    | cons v vs =>
      have h1 : Sat ⟨m, [], ro, []⟩ ((p, v) :: e) ⟨t.setIfInBounds p v, []⟩ := h.put (d := p) (Nat.ble_eq_true_of_le (hp p (.head _))) v
      exact ih h1 (fun q hq => hp q (.tail _ hq))

theorem callFunc_run {f : FuncId} {args : Array Value} {w : World} (h : okFn P f = true) : (callFunc f args).run P w = .ok (.enter f args) w := by
  obtain ⟨fn, h1, h2, h3⟩ := okFn_spec h
  unfold callFunc
  rw [Sem.run_bind]
  show (Result.ok P w).andThen _ = _
  rw [Result.andThen_ok]
  simp only [h1, h3, Bool.false_eq_true, if_false]
  have : fn.body.isNone = false := by cases h' : fn.body <;> simp_all
  simp only [this, Bool.false_eq_true, if_false]
  rfl

/-- Behind the assignments of a round: its body, the loop's record turned from ready to busy. -/
def AssignQ (P : Program) (m l : Nat) (rdy bsy : Obj) (M : Mem) (H : Hp) (body : Code) (Q : Exit → Act → World → Prop) : Exit → Act → World → Prop
  | .normal, a, w => ∃ e, Sat ⟨m, [], some l, []⟩ e a ∧ St M ((l, rdy) :: H) w ∧ C P ⟨m, [], some l, []⟩ body Q (St M ((l, bsy) :: H)) e
  | _, _, _ => False

theorem K_assign {m l : Nat} {rdy bsy : Obj} {body : Code} {Q' : Exit → Act → World → Prop} (h : C P ⟨m, [], some l, []⟩ body Q' (St M ((l, bsy) :: H)) e) : K ⟨m, [], some l, []⟩ (AssignQ P m l rdy bsy M H body Q') .normal (St M ((l, rdy) :: H)) e :=
  fun _ _ ha hw => ⟨e, ha, hw, h⟩

def markD (D : Nat) : Deferred := { target := .collected D, args := #[] }

theorem C_rangeFunc {α : Type} {m : Nat} {ds : List Deferred} {g : Operand} {ps : List Tmp} {assign body : Code} {gf : FuncId} {caps : List Value} {enc : α → List Value} {xs : List α} {Hi Hu : Hp}
    (I : List α → Mem → Hp → Prop) (Ix : Code → List α → Mem → Hp → Prop) (hg : ev e g = some (.func (.func gf) #[] caps.toArray)) (hok : okFn P gf = true) (hseq : Seqs P gf caps enc xs M Hi)
    (hH : ∀ w, St M H w → St M (Hu ++ (Hi ++ H0)) w) (hI : I [] M Hu) (hps : ∀ x, (enc x).length = ps.length) (hpm : ps.all (fun p => Nat.ble (p + 1) m) = true)
    (hround : ∀ (l : Nat) (rdy bsy : Obj) (pre : List α) (x : α) (post : List α) (M' : Mem) (Hu' F : Hp), xs = pre ++ x :: post → M.le M' → I pre M' Hu' →
      C P ⟨m, [], some l, []⟩ assign (AssignQ P m l rdy bsy M' (Hu' ++ F) body (RoundQ l bsy I Ix (pre ++ [x]) M' F)) (St M' ((l, rdy) :: (Hu' ++ F))) (rEnv ps (enc x) e))
    (hnorm : ∀ (D L : Nat) (o : Obj) (M' : Mem) (Hu' : Hp), M.le M' → I xs M' Hu' → K ⟨m, markD D :: ds, none, []⟩ Q .normal (St M' ((L, o) :: (Hu' ++ (Hi ++ ((D, .deferred (some [])) :: H0))))) e)
    (hexit : ∀ (c : Code) (D L : Nat) (o : Obj) (M' : Mem) (Hu' : Hp) (pre post : List α), xs = pre ++ post → M.le M' → Ix c pre M' Hu' → C P ⟨m, markD D :: ds, none, []⟩ c Q (St M' ((L, o) :: (Hu' ++ (Hi ++ ((D, .deferred (some [])) :: H0))))) e) :
    C P ⟨m, ds, none, []⟩ (.rangeFunc g ps.toArray assign body) Q (St M H) e := by
  intro a w ha hw
  have hpm' : ∀ p ∈ ps, p < m := fun p hp => Nat.le_of_ble_eq_true (List.all_eq_true.1 hpm p hp)
  refine wpIn_rangeFunc (F := Fr none) fun fn _ => ?_
  let D := w.heap.size
  let L := w.heap.size + 1
  let r : Loop := { state := .ready, pending := none, fn := fn, tmps := a.tmps, params := ps.toArray, assign := assign, body := body, defers := D }
  let w1 : World := (w.alloc (.deferred (some []))).alloc (.loop r)
  have hst : St M (((L, .loop r) :: Hu) ++ (Hi ++ ((D, .deferred (some [])) :: H0))) w1 := by
    have h1 := ((hH w hw).alloc (.deferred (some []))).alloc (.loop r)
    have e1 : (w.alloc (.deferred (some []))).heap.size = L := by simp [L]
    rw [e1] at h1
    refine h1.perm ?_
    refine List.Perm.cons _ ?_
    show ((D, Obj.deferred (some [])) :: (Hu ++ (Hi ++ H0))).Perm (Hu ++ (Hi ++ ((D, Obj.deferred (some [])) :: H0)))
    rw [← List.append_assoc, ← List.append_assoc]
    exact (List.perm_middle).symm
  have hloop : ∀ {M' : Mem} {H' : Hp} {w' : World} {r' : Loop}, St M' ((L, .loop r') :: H') w' → w'.heap[L]? = some (.loop r') := fun h => h.own _ _ (.head _)
  refine ⟨L, [markD D], w1, { target := .fn (.func gf) caps.toArray, args := #[.func (.yield L) #[] #[]] }, w1, gf, (Value.func (.yield L) #[] #[] :: caps).toArray, w1, run_enterLoop_outer fn a.tmps ps.toArray assign body, ?_, fun _ _ => trivial, ?_, fun h => (by cases h), ?_⟩
  · unfold resolve rangeCall
    simp only [ha.ev hg]
    simp [Deferred.ofValue, Act.eval]
  · show (callFunc gf (#[Value.func (.yield L) #[] #[]] ++ caps.toArray)).run P w1 = _
    rw [callFunc_run hok]
    congr 2
    simp
  · refine callsIn_Fr.2 ?_
    refine (hseq L (fun pre M' Hb => ∃ Hu', Hb = (L, .loop r) :: Hu' ∧ I pre M' Hu') (fun pre M' Hb => ∃ c Hu', Hb = (L, .loop { r with state := .done, pending := some c }) :: Hu' ∧ Ix c pre M' Hu') ?_ M ((L, .loop r) :: Hu) _ w1 (Mem.le.refl M) ⟨Hu, rfl, hI⟩ hst).mono ?_
    · -- a round
      rintro pre x post M' Hb F w' hxs hm ⟨Hu', rfl, hI'⟩ hw'
      refine ⟨fn, (ps.zip (enc x)).foldl (fun tmps (p : Tmp × Value) => tmps.setIfInBounds p.1 p.2) a.tmps, assign, body, ?_, ?_⟩
      · have := run_yield (P := P) (args := (enc x).toArray) (hloop hw') (by simp [r, hps x])
        rw [this]
        congr 2
        simp only [r]
        rw [List.zip_toArray, List.foldl_toArray]
      · refine roundIn_of_wpIn (F := Fr none) trivial ?_
        have h0 := round_sat (ro := some L) (ps := ps) (vs := enc x) (m := m) (e := e) (t := a.tmps) ⟨ha.size, rfl, ha.slot⟩ hpm'
        have h1 := hround L (.loop r) (.loop { r with state := .busy }) pre x post M' Hu' F hxs hm hI' _ w' h0 hw'
        refine wpIn_mono h1 fun ex a2 w2 hq => ?_
        cases ex with
        | normal =>
          obtain ⟨e2, hs2, hst2, hbody⟩ := hq
          refine ⟨_, run_beginRound (hloop hst2) rfl, ?_⟩
          have hst3 := putObj_st (o' := .loop { r with state := .busy }) hst2
          refine wpIn_mono (hbody a2 _ hs2 hst3) fun ex a3 w3 hq => ?_
          cases ex with
          | normal =>
            obtain ⟨M'', Hu'', g1, g2, g3⟩ := hq
            refine ⟨_, _, run_endRound none (hloop g2), _, rfl, M'', (L, .loop r) :: Hu'', g1, putObj_st (o' := .loop r) g2, .inl ⟨rfl, Hu'', rfl, g3⟩⟩
          | ret =>
            obtain ⟨M'', Hu'', g1, g2, g3⟩ := hq
            exact ⟨_, _, run_endRound (some .ret) (hloop g2), _, rfl, M'', (L, .loop { r with state := .done, pending := some .ret }) :: Hu'', g1, putObj_st g2, .inr ⟨rfl, .ret, Hu'', rfl, g3⟩⟩
          | exit id =>
            obtain ⟨M'', Hu'', g1, g2, g3⟩ := hq
            exact ⟨_, _, run_endRound (some (.exit id)) (hloop g2), _, rfl, M'', (L, .loop { r with state := .done, pending := some (.exit id) }) :: Hu'', g1, putObj_st g2, .inr ⟨rfl, .exit id, Hu'', rfl, g3⟩⟩
          | goto t => exact hq.elim
          | panic c => exact hq.elim
          | outgrown => exact hq.elim
        | _ => exact hq.elim
    · -- behind the call
      rintro e' w3 ⟨v, M'', Hb', rfl, hm, hst3, hend⟩
      have hsat : Sat ⟨m, markD D :: ds, none, []⟩ e { a with defers := [markD D] ++ a.defers } := ⟨ha.size, by simp [ha.defers], ha.slot⟩
      rcases hend with ⟨Hu', rfl, hI'⟩ | ⟨pre, post, hxs, c, Hu', rfl, hI'⟩
      · refine ⟨_, _, run_endLoop (hloop hst3) (by simp [r]), ?_⟩
        exact hnorm D L _ M'' Hu' hm hI' _ _ hsat (putObj_st hst3)
      · refine ⟨_, _, run_endLoop (hloop hst3) (by simp), ?_⟩
        exact hexit c D L _ M'' Hu' pre post hxs hm hI' _ _ hsat (putObj_st hst3)

/-! Functions that hold ranges over functions. -/

theorem enterM {f : FuncId} {fn : Func} {c : Code} {vs : List Value} {w : World} {R : Ending → World → Prop} {m : Nat} (hf : P.funcs[f]? = some fn) (hb : fn.body = some c) (hm : fn.ntmps = m) (hle : Nat.ble vs.length m = true)
    (hw : S w) (h : C P ⟨m, [], none, []⟩ c (bodyPostM (Fr none) 0 P fn R) S (args0 0 vs)) : Calls P f vs.toArray w R := by
  have hle' : vs.length ≤ m := Nat.le_of_ble_eq_true hle
  refine callsIn_Fr.1 (callsIn_of_wp_marks (F := Fr none) (n := 0) hf hb trivial (h _ w ⟨?_, rfl, fun k v hk => ?_⟩ hw))
  · simp [hm]; omega
  · rw [hm]
    obtain ⟨_, h2⟩ := args0_get vs 0 k v hk
    exact zip_sat k v (by simpa using h2)

theorem fsM_enter {f : FuncId} {fn : Func} {c : Code} {vs : List Value} {R : Value → Prop} {m : Nat} (hf : P.funcs[f]? = some fn) (hb : fn.body = some c) (hm : fn.ntmps = m) (hle : Nat.ble vs.length m = true)
    (h : ∀ H, C P ⟨m, [], none, []⟩ c (bodyPostM (Fr none) 0 P fn fun e w' => ∃ v, e = .returned v ∧ St M H w' ∧ R v) (St M H) (args0 0 vs)) : Fs P f vs M R :=
  fun H _ hw => enterM (S := St M H) hf hb hm hle hw (h H)

theorem fnM_enter {f : FuncId} {fn : Func} {c : Code} {vs : List Value} {R : Mem → Value → Prop} {m : Nat} (hf : P.funcs[f]? = some fn) (hb : fn.body = some c) (hm : fn.ntmps = m) (hle : Nat.ble vs.length m = true)
    (h : ∀ H, C P ⟨m, [], none, []⟩ c (bodyPostM (Fr none) 0 P fn fun e w' => ∃ v M', e = .returned v ∧ M.le M' ∧ St M' H w' ∧ R M' v) (St M H) (args0 0 vs)) : Fn P f vs M R :=
  fun H _ hw => enterM (S := St M H) hf hb hm hle hw (h H)

theorem fhM_enter {f : FuncId} {fn : Func} {c : Code} {vs : List Value} {Hin : Hp} {R : Mem → Value → Hp → Prop} {m : Nat} (hf : P.funcs[f]? = some fn) (hb : fn.body = some c) (hm : fn.ntmps = m) (hle : Nat.ble vs.length m = true)
    (h : ∀ H, C P ⟨m, [], none, []⟩ c (bodyPostM (Fr none) 0 P fn fun e w' => ∃ v M' Hout, e = .returned v ∧ M.le M' ∧ St M' (Hout ++ H) w' ∧ R M' v Hout) (St M (Hin ++ H)) (args0 0 vs)) : Fh P f vs M Hin R :=
  fun H _ hw => enterM (S := St M (Hin ++ H)) hf hb hm hle hw (h H)

theorem leavesM {fn : Func} {R : Ending → World → Prop} {tmps : Array Value} {v : Value} (hrun : ∀ w, St M H w → (results fn tmps).run P w = .ok v w) : ∀ (Ds : List Nat) (Hd : Hp) (w : World),
    (∀ D ∈ Ds, (D, .deferred (some [])) ∈ Hd) → Ds.Nodup → St M (Hd ++ H) w → (∀ w, St M H w → R (.returned v) w) → LeavesInM (Fr none) 0 P fn tmps R (Ds.map markD) .returning w
  | [], Hd, w, _, _, hw, hR => by
    have h0 : St M H w := hw.suf (Suf.app Hd H)
    exact ⟨v, hrun w h0, hR w h0⟩
  | D :: Ds, Hd, w, hD, hn, hw, hR => by
    rw [List.nodup_cons] at hn
    have hmem := hD D (.head _)
    have hb := hw.own D _ (List.mem_append_left _ hmem)
    refine ⟨by simp, .inl ⟨D, _, rfl, run_takeDeferred hb, ?_⟩⟩
    -- what is left of the marks' blocks
    have key : ∃ Hd', (∀ E ∈ Ds, (E, Obj.deferred (some [])) ∈ Hd') ∧ St M (Hd' ++ H) (w.putObj D (.deferred none)) := by
      refine ⟨Hd.filter fun x => x.1 != D, fun E hE => ?_, ?_⟩
      · refine List.mem_filter.2 ⟨hD E (.tail _ hE), ?_⟩
        have : E ≠ D := fun e => hn.1 (e ▸ hE)
        simpa using this
      · refine ⟨fun b o hbo => ?_, fun b o hbo => ?_, fun b o hbo => ?_, ?_, hw.io⟩
        · have hne : b ≠ D := fun e => by subst e; have := hw.sep b _ (List.mem_append_left _ hmem); rw [this] at hbo; cases hbo
          rw [World.putObj_heap_other hne]; exact hw.mem b o hbo
        · have hin : (b, o) ∈ Hd ++ H := by
            rcases List.mem_append.1 hbo with h | h
            · exact List.mem_append_left _ (List.mem_filter.1 h).1
            · exact List.mem_append_right _ h
          have hne : b ≠ D := by
            rcases List.mem_append.1 hbo with h | h
            · simpa using (List.mem_filter.1 h).2
            · intro e
              subst e
              have hnd := hw.nodup
              rw [List.map_append, List.nodup_append] at hnd
              exact hnd.2.2 b (List.mem_map.2 ⟨_, hmem, rfl⟩) b (List.mem_map.2 ⟨_, h, rfl⟩) rfl
          rw [World.putObj_heap_other hne]; exact hw.own b o hin
        · refine hw.sep b o ?_
          rcases List.mem_append.1 hbo with h | h
          · exact List.mem_append_left _ (List.mem_filter.1 h).1
          · exact List.mem_append_right _ h
        · exact hw.nodup.sublist ((List.filter_sublist.append_right H).map _)
    obtain ⟨Hd', g1, g2⟩ := key
    exact leavesM hrun Ds Hd' _ g1 hn.2 g2 hR

theorem K_endM {n : Nat} {fn : Func} {R : Ending → World → Prop} {x : Exit} {vs : List Value} {Ds : List Nat} {Hd : Hp} (hx : x = .normal ∨ x = .ret) (hr : Res P e H fn.results.toList vs)
    (hH : ∀ w, St M H' w → St M (Hd ++ H) w) (hDs : ∀ D ∈ Ds, (D, .deferred (some [])) ∈ Hd) (hn : Ds.Nodup) (h : ∀ w, St M H w → R (.returned (resV vs)) w) :
    K ⟨n, Ds.map markD, none, []⟩ (bodyPostM (Fr none) 0 P fn R) x (St M H') e := by
  intro a w ha hw
  have hrun : ∀ w, St M H w → (results fn a.tmps).run P w = .ok (resV vs) w := by
    intro w hw
    have h1 := Res.run (P := P) ha hw hr
    have h2 : results fn a.tmps = (do let vs ← fn.results.mapM (resOne a.tmps); pure (if h : vs.size = 1 then vs[0] else .tuple vs)) := by
      unfold results
      congr 1
    rw [h2, Array.mapM_eq_mapM_toList, Sem.run_bind]
    rw [Sem.run_map, h1]
    simp only [Result.andThen_ok]
    cases vs with
    | nil => rfl
    | cons v vs => cases vs <;> rfl
  have := leavesM (P := P) (R := R) hrun Ds Hd w hDs hn (hH w hw) h
  rcases hx with rfl | rfl <;> (show LeavesInM _ _ _ _ _ _ a.defers _ _; rw [ha.defers]; exact this)
end
end Go.Esp
