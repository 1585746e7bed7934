/-
  Frames as lists of what their slots hold; memory as what never changes (M) and what is ours (H).
-/
import Derived.Test.YtelpkhhfjfbkcaaDoorCore
set_option linter.unusedSimpArgs false
set_option linter.unusedVariables false
set_option linter.unnecessarySimpa false
namespace Go.Esp

abbrev Env := List (Nat × Value)

def get : Env → Nat → Option Value
  | [], _ => none
  | (j, v) :: r, k => match Nat.beq j k with
    | true => some v
    | false => get r k

/-- A frame's shape: how many slots, what is deferred, of which round it is. -/
structure Sh where
  sz : Nat
  ds : List Deferred := []
  ro : Option Nat := none
  wrs : List Nat := []

structure Sat (n : Sh) (e : Env) (a : Act) : Prop where
  size : a.tmps.size = n.sz
  defers : a.defers = n.ds
  slot : ∀ k v, get e k = some v → a.tmps.getD k undef = v

theorem Sat.put {n : Sh} {e : Env} {a : Act} (h : Sat n e a) {d : Nat} (hd : Nat.ble (d + 1) n.sz = true) (v : Value) : Sat n ((d, v) :: e) (a.put (some d) v) := by
  have hd' : d < n.sz := Nat.le_of_ble_eq_true hd
  refine ⟨by simp [Act.put, h.size], h.defers, fun k u hk => ?_⟩
  unfold get at hk
  split at hk
  · rename_i hb
    have := Nat.eq_of_beq_eq_true hb
    subst this
    obtain rfl := Option.some.inj hk
    have : d < a.tmps.size := by rw [h.size]; exact hd'
    simp [Act.put, this]
  · rename_i hb
    have hne : d ≠ k := fun e => by subst e; simp at hb
    have := h.slot k u hk
    simp only [Act.put]
    rw [← this]
    simp [Array.getElem?_setIfInBounds_ne hne]

theorem Sat.none {n : Sh} {e : Env} {a : Act} (h : Sat n e a) (v : Value) : Sat n e (a.put none v) := h

def ev (e : Env) : Operand → Option Value
  | .tmp t => get e t
  | .const v => some v
  | .global g => some (.pointer (some ⟨g, 0, Option.none⟩))
  | .func f => some (.func (.func f) #[] #[])

theorem Sat.ev {n : Sh} {e : Env} {a : Act} (h : Sat n e a) {x : Operand} {v : Value} (hx : ev e x = some v) : a.eval x = v := by
  cases x with
  | tmp t => exact h.slot t v hx
  | const u => exact Option.some.inj hx
  | global g => exact Option.some.inj hx
  | func f => exact Option.some.inj hx

def evs (e : Env) : List Operand → Option (List Value)
  | [] => some []
  | x :: r => match Esp.ev e x, evs e r with
    | some v, some vs => some (v :: vs)
    | _, _ => Option.none

theorem Sat.evs {n : Sh} {e : Env} {a : Act} (h : Sat n e a) : ∀ {xs : List Operand} {vs : List Value}, Esp.evs e xs = some vs → xs.map a.eval = vs
  | [], vs, hx => by simpa [Esp.evs] using hx
  | x :: r, vs, hx => by
    unfold Esp.evs at hx
    split at hx
    · rename_i v vs' hv hvs
      obtain rfl := Option.some.inj hx
      rw [List.map_cons, h.ev hv, h.evs hvs]
    · cases hx

/-- Is the operation to be done? (none: not known) -/
def want (ops : Array Oper) (e : Env) : Option (Nat × Bool) → Option Bool
  | Option.none => some true
  | some (g, b) => match (ops[g]?).bind (·.dst) with
    | some d => match get e d with
      | some (.bool c) => some (c == b)
      | some (.tuple _) => some false
      | _ => Option.none
    | Option.none => Option.none

theorem Sat.want {n : Sh} {e : Env} {a : Act} (h : Sat n e a) {ops : Array Oper} {o : Oper} {b : Bool} (hw : Esp.want ops e o.guard = some b) :
    Region.wanted o (yielded ops a.tmps) = b := by
  unfold Region.wanted
  cases hg : o.guard with
  | none => rw [hg] at hw; simpa [Esp.want] using hw
  | some gb =>
    obtain ⟨g, c⟩ := gb
    rw [hg] at hw
    simp only [Esp.want] at hw
    split at hw
    · rename_i d hd
      split at hw
      · rename_i c' hc'
        have hs := h.slot d _ hc'
        have hlt : d < a.tmps.size := by
          rcases Nat.lt_or_ge d a.tmps.size with h' | h'
          · exact h'
          · simp [h', undef] at hs
        have : yielded ops a.tmps g = some c' := by
          unfold yielded
          rw [hd]
          simp [hlt] at hs ⊢
          rw [hs]
        simp only [this]
        obtain rfl := Option.some.inj hw
        cases c' <;> cases c <;> rfl
      · rename_i ts hc'
        have hs := h.slot d _ hc'
        have : yielded ops a.tmps g = Option.none := by
          unfold yielded
          rw [hd]
          rcases Nat.lt_or_ge d a.tmps.size with h' | h'
          · simp [h'] at hs ⊢
            rw [hs]
          · simp [h']
        simp only [this]
        obtain rfl := Option.some.inj hw
        cases c <;> rfl
      · cases hw
    · cases hw

/-- The block b of H turns from o to o'. -/
inductive Upd (b : Nat) (o o' : Obj) : Hp → Hp → Prop
  | head {H : Hp} : Upd b o o' ((b, o) :: H) ((b, o') :: H)
  | tail {x : Nat × Obj} {H H' : Hp} : Upd b o o' H H' → Upd b o o' (x :: H) (x :: H')

theorem Upd.mem {b : Nat} {o o' : Obj} {H H' : Hp} (h : Upd b o o' H H') : (b, o) ∈ H := by
  induction h with
  | head => exact .head _
  | tail _ ih => exact .tail _ ih

theorem Upd.keys {b : Nat} {o o' : Obj} {H H' : Hp} (h : Upd b o o' H H') : H'.map Prod.fst = H.map Prod.fst := by
  induction h with
  | head => rfl
  | tail _ ih => simp [ih]

theorem Upd.mem' {b : Nat} {o o' : Obj} {H H' : Hp} (h : Upd b o o' H H') (hn : (H.map Prod.fst).Nodup) : ∀ c x, (c, x) ∈ H' → (c = b ∧ x = o') ∨ (c ≠ b ∧ (c, x) ∈ H) := by
  induction h with
  | head =>
    intro c x hc
    have hn' := List.nodup_cons.1 hn
    rcases List.mem_cons.1 hc with e | hc
    · cases e; exact .inl ⟨rfl, rfl⟩
    · refine .inr ⟨fun e => hn'.1 ?_, .tail _ hc⟩
      rw [e] at hc; exact List.mem_map.2 ⟨(b, x), hc, rfl⟩
  | @tail y H H' hu ih =>
    intro c x hc
    have hn' := List.nodup_cons.1 hn
    rcases List.mem_cons.1 hc with e | hc
    · subst e
      refine .inr ⟨fun e => hn'.1 ?_, .head _⟩
      have := hu.mem
      simp only at e ⊢
      rw [e]
      exact List.mem_map.2 ⟨(b, o), this, rfl⟩
    · rcases ih hn'.2 c x hc with h | ⟨h1, h2⟩
      · exact .inl h
      · exact .inr ⟨h1, .tail _ h2⟩

theorem St.upd {M : Mem} {H H' : Hp} {w w' : World} {b : Nat} {o o' : Obj} (h : St M H w) (hu : Upd b o o' H H') (hb : w'.heap[b]? = some o') (hk : ∀ c, c ≠ b → ∀ x, w.heap[c]? = some x → w'.heap[c]? = some x) (hio : SameIO w w') : St M H' w' := by
  have hM := h.sep b o hu.mem
  refine ⟨fun c x hc => hk c (fun e => by subst e; rw [hM] at hc; cases hc) x (h.mem c x hc), fun c x hc => ?_, fun c x hc => ?_, by rw [hu.keys]; exact h.nodup, hio.1.trans h.io.1, hio.2.1.trans h.io.2.1, hio.2.2.trans h.io.2.2⟩
  · rcases hu.mem' h.nodup c x hc with ⟨rfl, rfl⟩ | ⟨h1, h2⟩
    · exact hb
    · exact hk c h1 x (h.own c x h2)
  · rcases hu.mem' h.nodup c x hc with ⟨rfl, rfl⟩ | ⟨h1, h2⟩
    · exact hM
    · exact h.sep c x h2

/-! ### Calls -/

/-- A function that changes nothing that was there; what it hands back may lie in new memory. -/
def Fn (P : Program) (f : FuncId) (vs : List Value) (M : Mem) (R : Mem → Value → Prop) : Prop :=
  ∀ H w, St M H w → Calls P f vs.toArray w fun e w' => ∃ v M', e = .returned v ∧ M.le M' ∧ St M' H w' ∧ R M' v

/-- The same where nothing is handed back that lies in memory. -/
def Fs (P : Program) (f : FuncId) (vs : List Value) (M : Mem) (R : Value → Prop) : Prop :=
  ∀ H w, St M H w → Calls P f vs.toArray w fun e w' => ∃ v, e = .returned v ∧ St M H w' ∧ R v

/-- A function that turns blocks of its own. -/
def Fh (P : Program) (f : FuncId) (vs : List Value) (M : Mem) (Hin : Hp) (R : Mem → Value → Hp → Prop) : Prop :=
  ∀ H w, St M (Hin ++ H) w → Calls P f vs.toArray w fun e w' => ∃ v M' Hout, e = .returned v ∧ M.le M' ∧ St M' (Hout ++ H) w' ∧ R M' v Hout

/-! ### A region -/

def clOf (P : Program) : Op → Cls
  | .move _ | .assign _ | .pick .. | .nilCheck _ | .unOp .. | .fieldAddr .. | .field .. | .indexAddr .. | .index .. | .extract .. | .slice .. | .build .. | .makeInterface .. | .makeFunc .. => .pure
  | .binOp op .. => match op with
    | .eql | .neq => .read
    | _ => .pure
  | .convert src dst _ => match P.underlying src, P.underlying dst with
    | some (.int _), some (.int _) => .pure
    | some .string, some .string => .pure
    | _, _ => .wr
  | .load .. | .lookup .. | .typeAssert .. | .entry _ => .read
  | .call c => match c.callee with
    | .builtin b => match b with
      | .len | .cap | .min | .max => .read
      | _ => .wr
    | _ => .eff
  | .alloc _ | .box .. => .new
  | .buildSlice .. | .makeMap .. | .makeSlice .. => .eff
  | _ => .wr

def clsOf (P : Program) (ws : List Nat) (ops : Array Oper) (i : Nat) : Cls :=
  match ops[i]? with
  | some o => match clOf P o.op with
    | .eff => match ws.contains i with
      | true => .wr
      | false => .eff
    | .wr => match ws.contains i with
      | true => .eff
      | false => .wr
    | c => c
  | Option.none => .pure

def XD (P : Program) (n : Sh) (ops : Array Oper) (Q : Exit → Act → World → Prop) (l : List Nat) (J : World → Prop) (A : As) (e : Env) : Prop :=
  (∀ u, A.st u → J u) → ∀ a, Sat n e a → WD P ops (clsOf P n.wrs ops) Q l J A a

theorem wpOps_of_WD {P : Program} {ro : Option Nat} {ops : Array Oper} {cl : Nat → Cls} {Q : Exit → Act → World → Prop} : ∀ (l : List Nat) (J : World → Prop) (A : As) (a : Act) (w : World), (∀ u, A.st u → J u) → A.st w → WD P ops cl Q l J A a → wpOpsIn (Fr ro) 0 P ops Q l a w
  | [], _, _, _, w, _, hw, h => h w hw
  | i :: rest, J, A, a, w, hSJ, hw, h => by
    obtain ⟨o, ho, h⟩ := h
    rw [wpOpsIn_cons]
    unfold wpOpIn
    simp only [ho]
    rcases h with ⟨hwt, hk⟩ | ⟨hwt, hk⟩
    · simp only [hwt, Bool.false_eq_true, if_false]
      exact ⟨fun _ _ => trivial, wpOps_of_WD rest J A _ w hSJ hw hk⟩
    · simp only [hwt, if_true]
      cases hcl : cl i <;> simp only [hcl] at hk
      · obtain ⟨v, hv, hk⟩ := hk
        exact Runs.wpIn (hv w) (wpOps_of_WD rest J A _ w hSJ hw hk)
      · obtain ⟨v, hv, hk⟩ := hk
        exact Runs.wpIn (hv w (hSJ w hw)) (wpOps_of_WD rest J A _ w hSJ hw hk)
      · exact Oper.wpIn_of_does (Oper.does_mono (fun v w' ⟨A', s1, s2, hk⟩ => wpOps_of_WD rest J A' _ w' s2 s1 hk) (hk [] w hw))
      · exact Oper.wpIn_of_does (Oper.does_mono (fun v w' ⟨J', A', s1, s2, hk⟩ => wpOps_of_WD rest J' A' _ w' s2 s1 hk) (hk w hw))
      · obtain ⟨xo, hxo, hk⟩ := hk
        have hn : St A.M ((w.heap.size, xo) :: A.H) (w.alloc xo) := St.alloc hw xo
        exact Oper.wpIn_of_does (hxo.does (wpOps_of_WD rest J ⟨A.M, (w.heap.size, xo) :: A.H⟩ _ _ (fun u hu => hSJ u (St.tail hu)) hn (hk _ ⟨_, hn⟩)))

/-- Code, from whatever frame holds e and whatever world S says. -/
def C (P : Program) (n : Sh) (c : Code) (Q : Exit → Act → World → Prop) (S : World → Prop) (e : Env) : Prop :=
  ∀ a w, Sat n e a → S w → c.wpIn (Fr n.ro) 0 P Q a w

/-- An exit is reached with e and S. -/
def K (n : Sh) (Q : Exit → Act → World → Prop) (x : Exit) (S : World → Prop) (e : Env) : Prop :=
  ∀ a w, Sat n e a → S w → Q x a w

section
variable {P : Program} {n : Sh} {ops : Array Oper} {Q : Exit → Act → World → Prop} {rest : List Nat} {M M' : Mem} {H H' : Hp} {e : Env} {J S : World → Prop} {A : As} {i : Nat}
  {dst : Option Tmp} {d : Tmp} {op : Op} {ty : TypeId} {pos : String} {af : Array Edge} {gd : Option (Nat × Bool)}

/-- A region in the text's order. -/
theorem C_region {id : Nat} {l : List Nat} (hl : List.range ops.size = l) (h : XD P n ops Q l (St M H) ⟨M, H⟩ e) : C P n (.region id ops false) Q (St M H) e :=
  fun a w ha hw => wpIn_region (wpOps_of_WD _ (St M H) ⟨M, H⟩ a w (fun _ h => h) hw (hl ▸ h (fun _ h => h) a ha))

/-- A region in any order; J: what its reads lean on. -/
theorem C_region_any {id : Nat} {l : List Nat} (B : Array Nat) (J : World → Prop) (hl : List.range ops.size = l) (hm : P.follows .mixedOrders = true) (hok : okRegion ops (clsOf P n.wrs ops) B = true)
    (hdr : ∀ w : World, St M H w → St M H { w with drawn := w.drawn + 1 }) (hJ : ∀ u, St M H u → J u) (h : XD P n ops Q l J ⟨M, H⟩ e) : C P n (.region id ops true) Q (St M H) e :=
  fun a w ha hw => wp_region_WD (A := ⟨M, H⟩) hm hok hJ (hdr w hw) (hl ▸ h hJ a ha)

theorem K_unw {m : Nat} {ds : List Deferred} {ro : Option Nat} {ws : List Nat} {x : Exit} (h : K ⟨m, ds, ro, []⟩ Q x S e) : K ⟨m, ds, ro, ws⟩ Q x S e := fun a w ha hw => h a w ⟨ha.size, ha.defers, ha.slot⟩ hw

/-- A region in any order, some calls of which are of class wr. -/
theorem C_region_anyW {m : Nat} {ds : List Deferred} {ro : Option Nat} {id : Nat} {l : List Nat} (ws : List Nat) (B : Array Nat) (J : World → Prop) (hl : List.range ops.size = l) (hm : P.follows .mixedOrders = true) (hok : okRegion ops (clsOf P ws ops) B = true)
    (hdr : ∀ w : World, St M H w → St M H { w with drawn := w.drawn + 1 }) (hJ : ∀ u, St M H u → J u) (h : XD P ⟨m, ds, ro, ws⟩ ops Q l J ⟨M, H⟩ e) : C P ⟨m, ds, ro, []⟩ (.region id ops true) Q (St M H) e :=
  fun a w ha hw => wp_region_WD (A := ⟨M, H⟩) hm hok hJ (hdr w hw) (hl ▸ h hJ a ⟨ha.size, ha.defers, ha.slot⟩)

theorem St.drawn (w : World) (h : St M H w) : St M H { w with drawn := w.drawn + 1 } := h.heap rfl (SameIO.refl _)

theorem XD_end (h : K n Q .normal (St M H) e) : XD P n ops Q [] J ⟨M, H⟩ e := fun _ a ha w hw => h a w ha hw

theorem X_pure {o : Oper} (hi : ops[i]? = some o) (hc : clOf P o.op = .pure) (hg : want ops e o.guard = some true) {v : Value}
    (hv : ∀ a w, Sat n e a → Runs P o a w v) {e' : Env} (he : ∀ a, Sat n e a → Sat n e' (a.put o.dst v))
    (hk : XD P n ops Q rest J A e') : XD P n ops Q (i :: rest) J A e := by
  intro hSJ a ha
  refine ⟨o, hi, .inr ⟨ha.want hg, ?_⟩⟩
  have hcl : clsOf P n.wrs ops i = .pure := by simp [clsOf, hi, hc]
  rw [hcl]
  exact ⟨v, fun w => hv a w ha, hk hSJ _ (he a ha)⟩

theorem X_read {o : Oper} (hi : ops[i]? = some o) (hc : clOf P o.op = .read) (hg : want ops e o.guard = some true) {v : Value}
    (hv : ∀ a w, Sat n e a → J w → Runs P o a w v) {e' : Env} (he : ∀ a, Sat n e a → Sat n e' (a.put o.dst v))
    (hk : XD P n ops Q rest J A e') : XD P n ops Q (i :: rest) J A e := by
  intro hSJ a ha
  refine ⟨o, hi, .inr ⟨ha.want hg, ?_⟩⟩
  have hcl : clsOf P n.wrs ops i = .read := by simp [clsOf, hi, hc]
  rw [hcl]
  exact ⟨v, fun w hw => hv a w ha hw, hk hSJ _ (he a ha)⟩

theorem X_new {o : Oper} {x : Obj} (hi : ops[i]? = some o) (hc : clOf P o.op = .new) (hg : want ops e o.guard = some true) (hx : ∀ a, Sat n e a → News P o a x)
    {e' : Nat → Env} (he : ∀ a b, Sat n e a → Sat n (e' b) (a.put o.dst (.pointer (some ⟨b, 0, Option.none⟩)))) (hk : ∀ b, XD P n ops Q rest J ⟨M, (b, x) :: H⟩ (e' b)) : XD P n ops Q (i :: rest) J ⟨M, H⟩ e := by
  intro hSJ a ha
  refine ⟨o, hi, .inr ⟨ha.want hg, ?_⟩⟩
  have hcl : clsOf P n.wrs ops i = .new := by simp [clsOf, hi, hc]
  rw [hcl]
  exact ⟨x, hx a ha, fun b _ => hk b (fun u hu => hSJ u (St.tail hu)) _ (he a b ha)⟩

/-- An effect that turns what is ours: what reads lean on must be laid anew. F: whatever lies there besides. -/
theorem X_effJ {o : Oper} (hi : ops[i]? = some o) (hc : clOf P o.op = .eff) (hg : want ops e o.guard = some true)
    (hk : (∀ u, A.st u → J u) → ∀ a F w, Sat n e a → St A.M (F ++ A.H) w → Oper.does P o a w fun v w' => ∃ (A' : As) (e' : Env), St A'.M (F ++ A'.H) w' ∧ (∀ u, A'.st u → J u) ∧ Sat n e' (a.put o.dst v) ∧ XD P n ops Q rest J A' e') :
    XD P n ops Q (i :: rest) J A e := by
  intro hSJ a ha
  refine ⟨o, hi, .inr ⟨ha.want hg, ?_⟩⟩
  have hcl : clsOf P n.wrs ops i = .eff ∨ clsOf P n.wrs ops i = .wr := by
    cases hw : n.wrs.contains i
    · exact .inl (by simp only [clsOf, hi, hc, hw])
    · exact .inr (by simp only [clsOf, hi, hc, hw])
  rcases hcl with hcl | hcl <;> rw [hcl]
  · intro F w hw
    exact Oper.does_mono (fun v w' ⟨A', e', h1, h2, h3, h4⟩ => ⟨A', h1, h2, h4 h2 _ h3⟩) (hk hSJ a F w ha hw)
  · intro w hw
    exact Oper.does_mono (fun v w' ⟨A', e', h1, h2, h3, h4⟩ => ⟨J, A', h1, h2, h4 h2 _ h3⟩) (hk hSJ a [] w ha hw)

theorem X_eff {o : Oper} (hi : ops[i]? = some o) (hc : clOf P o.op = .eff) (hg : want ops e o.guard = some true)
    (hk : ∀ a F w, Sat n e a → St A.M (F ++ A.H) w → Oper.does P o a w fun v w' => ∃ (A' : As) (e' : Env), St A'.M (F ++ A'.H) w' ∧ (∀ u, A'.st u → A.st u) ∧ Sat n e' (a.put o.dst v) ∧ XD P n ops Q rest J A' e') :
    XD P n ops Q (i :: rest) J A e :=
  X_effJ hi hc hg (fun hSJ a F w ha hw => Oper.does_mono (fun v w' ⟨A', e', h1, h2, h3, h4⟩ => ⟨A', e', h1, fun u hu => hSJ u (h2 u hu), h3, h4⟩) (hk a F w ha hw))

/-- A call that is to be of class wr here: what reads lean on is laid anew. -/
theorem X_mutW {o : Oper} (hi : ops[i]? = some o) (hc : clOf P o.op = .eff) (hws : n.wrs.contains i = true) (hg : want ops e o.guard = some true)
    (hk : ∀ a w, Sat n e a → A.st w → Oper.does P o a w fun v w' => ∃ (A' : As) (e' : Env), A'.st w' ∧ Sat n e' (a.put o.dst v) ∧ XD P n ops Q rest A'.st A' e') :
    XD P n ops Q (i :: rest) J A e := by
  intro hSJ a ha
  refine ⟨o, hi, .inr ⟨ha.want hg, ?_⟩⟩
  have hcl : clsOf P n.wrs ops i = .wr := by simp only [clsOf, hi, hc, hws]
  rw [hcl]
  intro w hw
  exact Oper.does_mono (fun v w' ⟨A', e', h1, h3, h4⟩ => ⟨A'.st, A', h1, fun _ h => h, h4 (fun _ h => h) _ h3⟩) (hk a w ha hw)

theorem X_mut {o : Oper} (hi : ops[i]? = some o) (hc : clOf P o.op = .wr) (hg : want ops e o.guard = some true)
    (hk : ∀ a w, Sat n e a → A.st w → Oper.does P o a w fun v w' => ∃ (A' : As) (e' : Env), A'.st w' ∧ Sat n e' (a.put o.dst v) ∧ XD P n ops Q rest A'.st A' e') (hnw : n.wrs.contains i = false) :
    XD P n ops Q (i :: rest) J A e := by
  intro hSJ a ha
  refine ⟨o, hi, .inr ⟨ha.want hg, ?_⟩⟩
  have hcl : clsOf P n.wrs ops i = .wr := by simp only [clsOf, hi, hc, hnw]
  rw [hcl]
  intro w hw
  exact Oper.does_mono (fun v w' ⟨A', e', h1, h3, h4⟩ => ⟨A'.st, A', h1, fun _ h => h, h4 (fun _ h => h) _ h3⟩) (hk a w ha hw)

/-- A store that no read of the region looks at: it counts as an effect. -/
theorem X_mutE {o : Oper} (hi : ops[i]? = some o) (hc : clOf P o.op = .wr) (hws : n.wrs.contains i = true) (hg : want ops e o.guard = some true)
    (hk : ∀ a F w, Sat n e a → St A.M (F ++ A.H) w → Oper.does P o a w fun v w' => ∃ (A' : As) (e' : Env), St A'.M (F ++ A'.H) w' ∧ (∀ u, A'.st u → J u) ∧ Sat n e' (a.put o.dst v) ∧ XD P n ops Q rest J A' e') :
    XD P n ops Q (i :: rest) J A e := by
  intro hSJ a ha
  refine ⟨o, hi, .inr ⟨ha.want hg, ?_⟩⟩
  have hcl : clsOf P n.wrs ops i = .eff := by simp only [clsOf, hi, hc, hws]
  rw [hcl]
  intro F w hw
  exact Oper.does_mono (fun v w' ⟨A', e', h1, h2, h3, h4⟩ => ⟨A', h1, h2, h4 h2 _ h3⟩) (hk a F w ha hw)

theorem X_skip (hi : ops[i]? = some ⟨some d, op, ty, pos, af, gd⟩) (hg : want ops e gd = some false) (hd : Nat.ble (d + 1) n.sz = true)
    (hk : XD P n ops Q rest J A ((d, undef) :: e)) : XD P n ops Q (i :: rest) J A e := by
  intro hSJ a ha
  exact ⟨_, hi, .inl ⟨ha.want hg, hk hSJ _ (ha.put hd undef)⟩⟩

theorem X_skip0 (hi : ops[i]? = some ⟨Option.none, op, ty, pos, af, gd⟩) (hg : want ops e gd = some false)
    (hk : XD P n ops Q rest J A e) : XD P n ops Q (i :: rest) J A e := by
  intro hSJ a ha
  exact ⟨_, hi, .inl ⟨ha.want hg, hk hSJ _ (ha.none undef)⟩⟩

/-- Part on a slot's bool. -/
theorem Sat.more {a : Act} (ha : Sat n e a) {s : Nat} {v : Value} (hs : get e s = some v) : Sat n ((s, v) :: e) a :=
  ⟨ha.size, ha.defers, fun k u hk => by
    unfold get at hk
    split at hk
    · rename_i hb
      have := Nat.eq_of_beq_eq_true hb
      subst this
      obtain rfl := Option.some.inj hk
      exact ha.slot _ _ hs
    · exact ha.slot _ _ hk⟩

theorem XD_part (s : Nat) {c : Bool} (hs : get e s = some (.bool c)) (ht : c = true → XD P n ops Q rest J A ((s, .bool true) :: e)) (hf : c = false → XD P n ops Q rest J A ((s, .bool false) :: e)) :
    XD P n ops Q rest J A e := by
  intro hSJ a ha
  cases c with
  | true => exact ht rfl hSJ a (ha.more hs)
  | false => exact hf rfl hSJ a (ha.more hs)

/-- A slot's value is known to be another one. -/
theorem XD_is (s : Nat) {u v : Value} (hs : get e s = some u) (h : u = v) (hk : XD P n ops Q rest J A ((s, v) :: e)) : XD P n ops Q rest J A e := by
  intro hSJ a ha
  exact hk hSJ a (ha.more (h ▸ hs))

/-! Pure operations. -/

theorem runs_ok {o : Oper} {a : Act} {w : World} {v : Value} (h : execOp a.eval o = pure (.value v)) : Runs P o a w v := by
  unfold Runs; rw [h]; exact .inl rfl

theorem X_move {x : Operand} {v : Value} (hi : ops[i]? = some ⟨some d, .move x, ty, pos, af, gd⟩) (hg : want ops e gd = some true) (hx : ev e x = some v) (hd : Nat.ble (d + 1) n.sz = true)
    (hk : XD P n ops Q rest J A ((d, v) :: e)) : XD P n ops Q (i :: rest) J A e :=
  X_pure hi rfl hg (fun a w ha => runs_ok (by simp [execOp, ha.ev hx])) (fun a ha => ha.put hd v) hk

theorem X_assign {x : Operand} {v : Value} (hi : ops[i]? = some ⟨some d, .assign x, ty, pos, af, gd⟩) (hg : want ops e gd = some true) (hx : ev e x = some v) (hd : Nat.ble (d + 1) n.sz = true)
    (hk : XD P n ops Q rest J A ((d, v) :: e)) : XD P n ops Q (i :: rest) J A e :=
  X_pure hi rfl hg (fun a w ha => runs_ok (by simp [execOp, ha.ev hx])) (fun a ha => ha.put hd v) hk

theorem X_pick {c x y : Operand} {b : Bool} {v : Value} (hi : ops[i]? = some ⟨some d, .pick c x y, ty, pos, af, gd⟩) (hg : want ops e gd = some true) (hc : ev e c = some (.bool b)) (hx : ev e (if b then x else y) = some v) (hd : Nat.ble (d + 1) n.sz = true)
    (hk : XD P n ops Q rest J A ((d, v) :: e)) : XD P n ops Q (i :: rest) J A e :=
  X_pure hi rfl hg (fun a w ha => .inl (by cases b <;> simp [execOp, ha.ev hc, asBool] <;> simp at hx <;> rw [ha.ev hx] <;> rfl)) (fun a ha => ha.put hd v) hk
end
end Go.Esp
