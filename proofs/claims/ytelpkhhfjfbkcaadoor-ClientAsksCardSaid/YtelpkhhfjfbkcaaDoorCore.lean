/-
  The core of a logic of our own over the model: a region's operations in any order its edges allow.
-/
import Derived.WalkKit
import Derived.Orders
import Derived.OrdersIn
set_option linter.unusedSimpArgs false
set_option linter.unusedVariables false
set_option linter.unnecessarySimpa false
namespace Go.Esp

/-- What never changes: some blocks, and the streams. -/
structure Mem where
  cell : Nat → Option Obj
  os : Os
  tape : Nat → Question → Nat
  out : Array (Nat × ByteArray)

instance : CoeFun Mem (fun _ => Nat → Option Obj) := ⟨Mem.cell⟩

abbrev Hp := List (Nat × Obj)

def Mem.le (M M' : Mem) : Prop := (∀ b o, M b = some o → M' b = some o) ∧ M'.os = M.os ∧ M'.tape = M.tape ∧ M'.out = M.out
theorem Mem.le.refl (M : Mem) : M.le M := ⟨fun _ _ h => h, rfl, rfl, rfl⟩
theorem Mem.le.trans {M M' M'' : Mem} (h : M.le M') (h' : M'.le M'') : M.le M'' := ⟨fun b o hb => h'.1 b o (h.1 b o hb), h'.2.1.trans h.2.1, h'.2.2.1.trans h.2.2.1, h'.2.2.2.trans h.2.2.2⟩

/-- The streams are as they were. -/
def SameIO (w w' : World) : Prop := w'.os = w.os ∧ w'.tape = w.tape ∧ w'.output = w.output
theorem SameIO.refl (w : World) : SameIO w w := ⟨rfl, rfl, rfl⟩

structure St (M : Mem) (H : Hp) (w : World) : Prop where
  mem : ∀ b o, M b = some o → w.heap[b]? = some o
  own : ∀ b o, (b, o) ∈ H → w.heap[b]? = some o
  sep : ∀ b o, (b, o) ∈ H → M b = Option.none
  nodup : (H.map Prod.fst).Nodup
  io : w.os = M.os ∧ w.tape = M.tape ∧ w.output = M.out

theorem St.heap {M : Mem} {H : Hp} {w w' : World} (h : St M H w) (e : w'.heap = w.heap) (hio : SameIO w w') : St M H w' :=
  ⟨fun b o hb => by rw [e]; exact h.mem b o hb, fun b o hb => by rw [e]; exact h.own b o hb, h.sep, h.nodup, hio.1.trans h.io.1, hio.2.1.trans h.io.2.1, hio.2.2.trans h.io.2.2⟩

theorem St.tail {M : Mem} {x : Nat × Obj} {H : Hp} {w : World} (h : St M (x :: H) w) : St M H w :=
  ⟨h.mem, fun b o hb => h.own b o (.tail _ hb), fun b o hb => h.sep b o (.tail _ hb), (List.nodup_cons.1 h.nodup).2, h.io⟩

/-- H' is what is left of H when some blocks are forgotten. -/
inductive Suf : Hp → Hp → Prop
  | refl (H : Hp) : Suf H H
  | skip {H' H : Hp} {x : Nat × Obj} : Suf H' H → Suf H' (x :: H)
  | keep {H' H : Hp} {x : Nat × Obj} : Suf H' H → Suf (x :: H') (x :: H)

theorem Suf.app : ∀ (Hd H : Hp), Suf H (Hd ++ H)
  | [], H => .refl H
  | _ :: Hd, H => .skip (Suf.app Hd H)

theorem Suf.keepL {H' H : Hp} (h : Suf H' H) : ∀ hs : Hp, Suf (hs ++ H') (hs ++ H)
  | [] => h
  | _ :: hs => .keep (Suf.keepL h hs)

theorem Suf.trans {A B C : Hp} (h : Suf A B) (h' : Suf B C) : Suf A C := by
  induction h' generalizing A with
  | refl => exact h
  | skip _ ih => exact .skip (ih h)
  | keep hk ih =>
    cases h with
    | refl => exact .keep hk
    | skip h => exact .skip (ih h)
    | keep h => exact .keep (ih h)

theorem Suf.dropL {H' H : Hp} (h : Suf H' H) (hs : Hp) : Suf H' (hs ++ H) := h.trans (Suf.app hs H)

theorem Suf.sub {H' H : Hp} (h : Suf H' H) : List.Sublist H' H := by
  induction h with
  | refl => exact List.Sublist.refl _
  | skip _ ih => exact ih.cons _
  | keep _ ih => exact ih.cons_cons _

theorem St.suf {M : Mem} {H H' : Hp} {w : World} (h : St M H w) (hs : Suf H' H) : St M H' w :=
  ⟨h.mem, fun b o hb => h.own b o (hs.sub.subset hb), fun b o hb => h.sep b o (hs.sub.subset hb), h.nodup.sublist (hs.sub.map _), h.io⟩

theorem St.lower {M M' : Mem} {H : Hp} {w : World} (h : St M' H w) (hm : M.le M') : St M H w := by
  refine ⟨fun b o hb => h.mem b o (hm.1 b o hb), h.own, fun b o hb => ?_, h.nodup, h.io.1.trans hm.2.1, h.io.2.1.trans hm.2.2.1, h.io.2.2.trans hm.2.2.2⟩
  cases hM : M b with
  | none => rfl
  | some o' => have := h.sep b o hb; rw [hm.1 b o' hM] at this; cases this

theorem St.lt {M : Mem} {H : Hp} {w : World} (h : St M H w) {b : Nat} {o : Obj} (hb : (b, o) ∈ H) : b < w.heap.size := by
  have := h.own b o hb
  exact (Array.getElem?_eq_some_iff.1 this).1

theorem getElem?_push_lt {α : Type} {xs : Array α} {x : α} {i : Nat} {v : α} (h : xs[i]? = some v) : (xs.push x)[i]? = some v := by
  have hlt := (Array.getElem?_eq_some_iff.1 h).1
  rw [Array.getElem?_push]
  simp [Nat.ne_of_lt hlt, h]

/-- A new block. -/
theorem St.alloc {M : Mem} {H : Hp} {w : World} (h : St M H w) (o : Obj) : St M ((w.heap.size, o) :: H) (w.alloc o) := by
  refine ⟨fun b o' hb => getElem?_push_lt (h.mem b o' hb), fun b o' hb => ?_, fun b o' hb => ?_, ?_, h.io⟩
  · rcases List.mem_cons.1 hb with e | hb
    · cases e; exact Array.getElem?_push_size
    · exact getElem?_push_lt (h.own b o' hb)
  · rcases List.mem_cons.1 hb with e | hb
    · cases e
      cases hM : M w.heap.size with
      | none => rfl
      | some o' => have := (Array.getElem?_eq_some_iff.1 (h.mem _ _ hM)).1; omega
    · exact h.sep b o' hb
  · rw [List.map_cons, List.nodup_cons]
    refine ⟨fun hm => ?_, h.nodup⟩
    obtain ⟨⟨b, o'⟩, hb, hbe⟩ := List.mem_map.1 hm
    have := h.lt hb
    simp only at hbe; omega

/-- What is ours becomes what never changes. -/
def Mem.add (M : Mem) (b : Nat) (o : Obj) : Mem := { M with cell := fun c => if c = b then some o else M c }

theorem Mem.add_le {M : Mem} {b : Nat} {o : Obj} (h : M b = Option.none) : M.le (M.add b o) := by
  refine ⟨fun c o' hc => ?_, rfl, rfl, rfl⟩
  by_cases e : c = b
  · subst e; rw [h] at hc; cases hc
  · simp [Mem.add, e, hc]

theorem Mem.add_self (M : Mem) (b : Nat) (o : Obj) : M.add b o b = some o := by simp [Mem.add]

theorem St.freeze {M : Mem} {H : Hp} {w : World} {b : Nat} {o : Obj} (h : St M ((b, o) :: H) w) : M.le (M.add b o) ∧ St (M.add b o) H w := by
  have hn := List.nodup_cons.1 h.nodup
  have hM := h.sep b o (.head _)
  refine ⟨Mem.add_le hM, fun c o' hc => ?_, fun c o' hc => h.own c o' (.tail _ hc), fun c o' hc => ?_, hn.2, h.io⟩
  · simp only [Mem.add] at hc
    by_cases e : c = b
    · subst e; simp at hc; subst hc; exact h.own c o (.head _)
    · simp [e] at hc; exact h.mem c o' hc
  · have hne : c ≠ b := fun e => hn.1 (by subst e; exact List.mem_map.2 ⟨(c, o'), hc, rfl⟩)
    simp [Mem.add, hne]
    exact h.sep c o' (.tail _ hc)


/-- Blocks that are there besides, ahead or behind. -/
theorem St.perm0 {M : Mem} {H H' : Hp} {w : World} (h : St M H w) (hp : H.Perm H') : St M H' w :=
  ⟨h.mem, fun b o hb => h.own b o (hp.mem_iff.2 hb), fun b o hb => h.sep b o (hp.mem_iff.2 hb), (hp.map _).nodup_iff.1 h.nodup, h.io⟩

theorem St.unframe {M : Mem} {F H : Hp} {w : World} (h : St M (F ++ H) w) : St M H w := h.suf (Suf.app F H)

/-- What is known of the world: what never changes, and what is ours. -/
structure As where
  M : Mem
  H : Hp

def As.st (A : As) : World → Prop := St A.M A.H

/-- What an operation does to memory. -/
inductive Cls where
  | pure | read | eff | wr | new
  deriving DecidableEq

def Cls.strong : Cls → Bool
  | .eff | .wr | .new => true
  | _ => false

def noExit : Exit → Act → World → Prop := fun _ _ _ => False

def Runs (P : Program) (o : Oper) (a : Act) (w : World) (v : Value) : Prop :=
  (execOp a.eval o).run P w = .ok (.value v) w ∨ ((execOp a.eval o).run P w = .ok .skip w ∧ v = undef)

theorem Runs.unique {P : Program} {o : Oper} {a : Act} {w : World} {u v : Value} (h : Runs P o a w u) (h' : Runs P o a w v) : u = v := by
  rcases h with h | ⟨h, rfl⟩ <;> rcases h' with h' | ⟨h', rfl⟩ <;> rw [h] at h' <;> simp_all

theorem Runs.wp {P : Program} {o : Oper} {a : Act} {w : World} {v : Value} (h : Runs P o a w v) {K : Act → World → Prop} {Q : Exit → Act → World → Prop}
    (hk : K (a.put o.dst v) w) : o.wp P a w K Q := by
  unfold Oper.wp
  rcases h with h | ⟨h, rfl⟩ <;> rw [h] <;> exact hk

/-- The fence that lets everything in; ro: the round that the frame is of. -/
def Fr (ro : Option Nat) : Fence := { Fence.wide with round := ro }

theorem Fr_none : Fr none = Fence.wide := rfl

/-- An operation that goes on to a value, whatever its frame does with it. -/
def Oper.does (P : Program) (o : Oper) (a : Act) (w : World) (K : Value → World → Prop) : Prop :=
  match (execOp a.eval o).run P w with
  | .ok (.value v) w' => K v w'
  | .ok .skip w' => K undef w'
  | .ok (.enter f args) w' => Calls P f args w' fun e w'' => ∃ v, e = .returned v ∧ K v w''
  | .ok (.row row args) w' => Rows P row args w' K
  | .ok (.round l f tmps assign body) w' => RoundIn (Fr none) 0 P l f tmps assign body w' fun e w'' => ∃ v, e = .returned v ∧ K v w''
  | _ => False

/-- An operation that makes a variable. -/
def News (P : Program) (o : Oper) (a : Act) (x : Obj) : Prop :=
  ∀ w : World, (execOp a.eval o).run P w = .ok (.value (.pointer (some ⟨w.heap.size, 0, none⟩))) (w.alloc x)

/-- The walk of a region, in the text's order; J is what every read leans on, A what is known of the world now. -/
def WD (P : Program) (ops : Array Oper) (cl : Nat → Cls) (Q : Exit → Act → World → Prop) : List Nat → (J : World → Prop) → (A : As) → Act → Prop
  | [], _, A, a => ∀ w, A.st w → Q .normal a w
  | i :: rest, J, A, a => ∃ o, ops[i]? = some o ∧
    ((Region.wanted o (yielded ops a.tmps) = false ∧ WD P ops cl Q rest J A (a.put o.dst undef)) ∨
     (Region.wanted o (yielded ops a.tmps) = true ∧
      match cl i with
      | .pure => ∃ v, (∀ w, Runs P o a w v) ∧ WD P ops cl Q rest J A (a.put o.dst v)
      | .read => ∃ v, (∀ w, J w → Runs P o a w v) ∧ WD P ops cl Q rest J A (a.put o.dst v)
      | .eff => ∀ F w, St A.M (F ++ A.H) w → Oper.does P o a w (fun v w' => ∃ A' : As, St A'.M (F ++ A'.H) w' ∧ (∀ u, A'.st u → J u) ∧ WD P ops cl Q rest J A' (a.put o.dst v))
      | .new => ∃ x, News P o a x ∧ ∀ b, (∃ w, St A.M ((b, x) :: A.H) w) → WD P ops cl Q rest J ⟨A.M, (b, x) :: A.H⟩ (a.put o.dst (.pointer (some ⟨b, 0, none⟩)))
      | .wr => ∀ w, A.st w → Oper.does P o a w (fun v w' => ∃ (J' : World → Prop) (A' : As), A'.st w' ∧ (∀ u, A'.st u → J' u) ∧ WD P ops cl Q rest J' A' (a.put o.dst v))))

section
variable {P : Program} {ops : Array Oper} {cl : Nat → Cls} {Q : Exit → Act → World → Prop} {md : Region.Mode}

theorem Oper.does_mono {o : Oper} {a : Act} {w : World} {K K' : Value → World → Prop} (h : ∀ v w, K v w → K' v w) (hh : Oper.does P o a w K) : Oper.does P o a w K' := by
  unfold Oper.does at *
  split at hh <;> first
    | exact h _ _ hh
    | exact Calls.mono hh fun e w'' ⟨v, he, hk⟩ => ⟨v, he, h _ _ hk⟩
    | exact Rows.mono hh h
    | exact RoundIn.mono hh fun e w'' ⟨v, he, hk⟩ => ⟨v, he, h _ _ hk⟩
    | exact hh.elim

theorem Oper.does_some {o : Oper} {a : Act} {w : World} {K : Value → World → Prop} (hh : Oper.does P o a w K) : ∃ v w', K v w' := by
  unfold Oper.does at hh
  split at hh
  · exact ⟨_, _, hh⟩
  · exact ⟨_, _, hh⟩
  · obtain ⟨e, w'', fr, ⟨v, _, hk⟩, _⟩ := hh []
    exact ⟨_, _, hk⟩
  · obtain ⟨v, w'', hR, _⟩ := hh default []
    exact ⟨_, _, hR⟩
  · obtain ⟨e, w'', ⟨v, _, hk⟩, _⟩ := hh.2 default [] (room_wide _)
    exact ⟨_, _, hk⟩
  · exact hh.elim

theorem callsIn_Fr {ro : Option Nat} {m : Nat} {f : FuncId} {args : Array Value} {w : World} {R : Ending → World → Prop} : CallsIn (Fr ro) m P f args w R ↔ Calls P f args w R := by
  rw [← callsIn_wide (n := m)]
  exact Iff.rfl

theorem rowsIn_Fr {ro : Option Nat} {m : Nat} {row : String} {args : Array Value} {w : World} {R : Value → World → Prop} (h : Rows P row args w R) : RowsIn (Fr ro) m P row args w R := by
  intro c cs _
  obtain ⟨v, w', hr, hs⟩ := h c cs
  exact ⟨v, w', hr, (StepsIn.of_steps hs).mono fun m _ => fenced_wide P m⟩

theorem roundIn_Fr {ro : Option Nat} {m l : Nat} {f : FuncId} {tmps : Array Value} {assign body : Code} {w : World} {R : Ending → World → Prop} (h : RoundIn (Fr none) 0 P l f tmps assign body w R) : RoundIn (Fr ro) m P l f tmps assign body w R :=
  ⟨trivial, fun c cs _ => h.2 c cs (room_wide _)⟩

theorem does_semAt {o : Oper} {a : Act} {w : World} {K : Value → World → Prop} (ro : Option Nat) (h : Oper.does P o a w K) : (o.semAt ro a.eval).run P w = (execOp a.eval o).run P w := by
  rw [Oper.semAt_eq ro a.eval o]
  intro c hc
  have : ∀ r, (execOp a.eval o).run P w = r → (match r with | .ok (.value v) w' => K v w' | .ok .skip w' => K undef w' | .ok (.enter f args) w' => Calls P f args w' fun e w'' => ∃ v, e = .returned v ∧ K v w'' | .ok (.row row args) w' => Rows P row args w' K | .ok (.round l f tmps assign body) w' => RoundIn (Fr none) 0 P l f tmps assign body w' fun e w'' => ∃ v, e = .returned v ∧ K v w'' | _ => False) := fun r hr => by subst hr; exact h
  have hrun := this _ rfl
  simp only [execOp, hc] at hrun
  rw [Sem.run_bind] at hrun
  cases hres : (resolve a.eval c o.type).run P w <;> rw [hres] at hrun <;> exact hrun

theorem Oper.wpIn_of_does {ro : Option Nat} {m : Nat} {o : Oper} {a : Act} {w : World} {K : Act → World → Prop} (hh : Oper.does P o a w fun v w' => K (a.put o.dst v) w') : o.wpIn (Fr ro) m P a w K Q := by
  refine ⟨fun _ _ => trivial, ?_⟩
  have hs := does_semAt ro hh
  show o.uponIn (Fr ro) m P a K Q ((o.semAt ro a.eval).run P w)
  rw [hs]
  unfold Oper.does at hh
  generalize (execOp a.eval o).run P w = r at hh
  cases r with
  | ok x w' =>
    cases x <;> simp only [Oper.uponIn] at hh ⊢
    case value u => exact hh
    case skip => exact hh
    case enter f args =>
      refine ⟨fun h => (by cases h), callsIn_Fr.2 (Calls.mono hh fun e w'' ⟨v, he, hk⟩ => ?_)⟩
      subst he
      exact hk
    case row row args => exact ⟨fun h => (by cases h), rowsIn_Fr hh⟩
    case round l f tmps assign body =>
      refine ⟨fun h => (by cases h), ?_⟩
      have h1 : RoundIn (Fr none) 0 P l f tmps assign body w' fun | .returned v, w'' => K (a.put o.dst v) w'' | .panicked chain, w'' => Q (.panic chain) a w'' | .outgrown, _ => LetsOut Q := RoundIn.mono hh fun e w'' ⟨v, he, hk⟩ => by subst he; exact hk
      exact roundIn_Fr h1
  | halt x w' => exact hh.elim

theorem Runs.does {o : Oper} {a : Act} {w : World} {v : Value} (h : Runs P o a w v) {K : Value → World → Prop} (hk : K v w) : Oper.does P o a w K := by
  unfold Oper.does
  rcases h with h | ⟨h, rfl⟩ <;> rw [h] <;> exact hk

theorem Runs.wpIn {ro : Option Nat} {m : Nat} {o : Oper} {a : Act} {w : World} {v : Value} (h : Runs P o a w v) {K : Act → World → Prop} (hk : K (a.put o.dst v) w) : o.wpIn (Fr ro) m P a w K Q :=
  Oper.wpIn_of_does (h.does hk)

theorem News.does {o : Oper} {a : Act} {x : Obj} {w : World} (h : News P o a x) {K : Value → World → Prop} (hk : K (.pointer (some ⟨w.heap.size, 0, none⟩)) (w.alloc x)) : Oper.does P o a w K := by
  unfold Oper.does
  rw [h w]; exact hk

theorem Oper.does_put {o : Oper} (hs : ∀ cs b, o.op ≠ .select cs b) {a : Act} {w : World} {d : Option Tmp} {u : Value} (h : ∀ t, d = some t → t ∉ o.looksAt ops) {K : Value → World → Prop} :
    Oper.does P o (a.put d u) w K ↔ Oper.does P o a w K := by
  unfold Oper.does; rw [execOp_put o hs a d u h]

theorem Runs.put {o : Oper} (hs : ∀ cs b, o.op ≠ .select cs b) {a : Act} {w : World} {d : Option Tmp} {u v : Value} (h : ∀ t, d = some t → t ∉ o.looksAt ops) :
    Runs P o (a.put d u) w v ↔ Runs P o a w v := by
  unfold Runs; rw [execOp_put o hs a d u h]

/-- May x, which stands ahead of i, be passed by i? -/
def mayPass : Cls → Cls → Bool
  | .pure, _ => true
  | .read, .wr => false
  | .read, _ => true
  | .eff, .pure | .eff, .read | .eff, .new => true
  | .new, .pure | .new, .read | .new, .new => true
  | .wr, .pure => true
  | _, _ => false

/-- One step, by itself: what the operation i asks, and what stands behind it. -/
def stepD (P : Program) (ops : Array Oper) (c : Cls) (o : Oper) (a : Act) (J : World → Prop) (A : As) (K : (World → Prop) → As → Act → Prop) : Prop :=
  (Region.wanted o (yielded ops a.tmps) = false ∧ K J A (a.put o.dst undef)) ∨
  (Region.wanted o (yielded ops a.tmps) = true ∧
    match c with
    | .pure => ∃ v, (∀ w, Runs P o a w v) ∧ K J A (a.put o.dst v)
    | .read => ∃ v, (∀ w, J w → Runs P o a w v) ∧ K J A (a.put o.dst v)
    | .eff => ∀ F w, St A.M (F ++ A.H) w → Oper.does P o a w (fun v w' => ∃ A' : As, St A'.M (F ++ A'.H) w' ∧ (∀ u, A'.st u → J u) ∧ K J A' (a.put o.dst v))
    | .new => ∃ x, News P o a x ∧ ∀ b, (∃ w, St A.M ((b, x) :: A.H) w) → K J ⟨A.M, (b, x) :: A.H⟩ (a.put o.dst (.pointer (some ⟨b, 0, none⟩)))
    | .wr => ∀ w, A.st w → Oper.does P o a w (fun v w' => ∃ (J' : World → Prop) (A' : As), A'.st w' ∧ (∀ u, A'.st u → J' u) ∧ K J' A' (a.put o.dst v)))

theorem WD_cons {i : Nat} {o : Oper} (hi : ops[i]? = some o) {rest : List Nat} {J : World → Prop} {A : As} {a : Act} :
    WD P ops cl Q (i :: rest) J A a ↔ stepD P ops (cl i) o a J A (WD P ops cl Q rest) := by
  constructor
  · rintro ⟨o', ho', h⟩
    obtain rfl : o' = o := Option.some.inj (ho'.symm.trans hi)
    exact h
  · intro h
    exact ⟨o, hi, h⟩

theorem stepD.mono {c : Cls} {o : Oper} {a : Act} {J : World → Prop} {A : As} {K K' : (World → Prop) → As → Act → Prop} (hSJ : ∀ u, A.st u → J u)
    (h : ∀ J' A' v, (∀ u, As.st A' u → J' u) → ((∃ w, A.st w) → ∃ w, As.st A' w) → (c ≠ .wr → J' = J) → K J' A' (a.put o.dst v) → K' J' A' (a.put o.dst v)) (hh : stepD P ops c o a J A K) : stepD P ops c o a J A K' := by
  rcases hh with ⟨hw, hk⟩ | ⟨hw, hk⟩
  · exact .inl ⟨hw, h _ _ _ hSJ id (fun _ => rfl) hk⟩
  · refine .inr ⟨hw, ?_⟩
    cases c <;> simp only at hk ⊢
    · obtain ⟨v, hv, hk⟩ := hk
      exact ⟨v, hv, h _ _ _ hSJ id (fun _ => rfl) hk⟩
    · obtain ⟨v, hv, hk⟩ := hk
      exact ⟨v, hv, h _ _ _ hSJ id (fun _ => rfl) hk⟩
    · intro F w hw
      exact Oper.does_mono (fun v w' ⟨A', s1, s2, hk⟩ => ⟨A', s1, s2, h _ _ _ s2 (fun _ => ⟨w', s1.unframe⟩) (fun _ => rfl) hk⟩) (hk F w hw)
    · intro w hw
      exact Oper.does_mono (fun v w' ⟨J', A', s1, s2, hk⟩ => ⟨J', A', s1, s2, h _ _ _ s2 (fun _ => ⟨w', s1⟩) (fun hc => (hc rfl).elim) hk⟩) (hk w hw)
    · obtain ⟨x, hx, hk⟩ := hk
      exact ⟨x, hx, fun b hb => h _ _ _ (fun u hu => hSJ u (St.tail hu)) (fun _ => hb) (fun _ => rfl) (hk b hb)⟩

theorem News.put {o : Oper} (hs : ∀ cs b, o.op ≠ .select cs b) {a : Act} {d : Option Tmp} {u : Value} {x : Obj} (h : ∀ t, d = some t → t ∉ o.looksAt ops) : News P o (a.put d u) x ↔ News P o a x := by
  unfold News; rw [execOp_put o hs a d u h]

theorem News.unique {o : Oper} {a : Act} {x y : Obj} (w : World) (h : News P o a x) (h' : News P o a y) : x = y := by
  have e := (h w).symm.trans (h' w)
  have e1 : (w.alloc x).heap = (w.alloc y).heap := by
    have := Result.ok.inj e
    exact congrArg World.heap this.2
  have e2 : (w.heap.push x)[w.heap.size]? = (w.heap.push y)[w.heap.size]? := congrArg (fun h : Array Obj => h[w.heap.size]?) e1
  simpa using e2

theorem stepD.put {c : Cls} {o : Oper} (hs : ∀ cs b, o.op ≠ .select cs b) {a : Act} {d : Option Tmp} {u : Value} (h1 : ∀ t, d = some t → t ∉ o.looksAt ops) (h2 : ∀ t, d = some t → o.dst ≠ some t)
    {J : World → Prop} {A : As} {K : (World → Prop) → As → Act → Prop} : stepD P ops c o (a.put d u) J A K ↔ stepD P ops c o a J A (fun J A a => K J A (a.put d u)) := by
  unfold stepD
  simp only [wanted_put o a d u h1, Runs.put hs h1, Oper.does_put hs h1, News.put hs h1]
  have cm : ∀ v, (a.put d u).put o.dst v = (a.put o.dst v).put d u := fun v => Act.put_comm a u v h2
  simp only [cm]

/-- The value that a pure or a read operation has, at a frame, whatever the world. -/
def knows (P : Program) (ops : Array Oper) (c : Cls) (o : Oper) (a : Act) (J : World → Prop) (v : Value) : Prop :=
  (Region.wanted o (yielded ops a.tmps) = false ∧ v = undef) ∨ (Region.wanted o (yielded ops a.tmps) = true ∧ ((c = .pure ∧ ∀ w, Runs P o a w v) ∨ (c = .read ∧ ∀ w, J w → Runs P o a w v)))

theorem stepD.weak {c : Cls} (hc : c.strong = false) {o : Oper} {a : Act} {J : World → Prop} {A : As} {K : (World → Prop) → As → Act → Prop} :
    stepD P ops c o a J A K ↔ ∃ v, knows P ops c o a J v ∧ K J A (a.put o.dst v) := by
  constructor
  · rintro (⟨hw, hk⟩ | ⟨hw, hk⟩)
    · exact ⟨_, .inl ⟨hw, rfl⟩, hk⟩
    · cases c <;> simp only [Cls.strong] at hc <;> simp only at hk
      · obtain ⟨v, hv, hk⟩ := hk; exact ⟨v, .inr ⟨hw, .inl ⟨rfl, hv⟩⟩, hk⟩
      · obtain ⟨v, hv, hk⟩ := hk; exact ⟨v, .inr ⟨hw, .inr ⟨rfl, hv⟩⟩, hk⟩
      · cases hc
      · cases hc
      · cases hc
  · rintro ⟨v, (⟨hw, rfl⟩ | ⟨hw, ⟨rfl, hv⟩ | ⟨rfl, hv⟩⟩), hk⟩
    · exact .inl ⟨hw, hk⟩
    · exact .inr ⟨hw, v, hv, hk⟩
    · exact .inr ⟨hw, v, hv, hk⟩

theorem knows.put {c : Cls} {o : Oper} (hs : ∀ cs b, o.op ≠ .select cs b) {a : Act} {d : Option Tmp} {u : Value} (h1 : ∀ t, d = some t → t ∉ o.looksAt ops) {J : World → Prop} {v : Value} :
    knows P ops c o (a.put d u) J v ↔ knows P ops c o a J v := by
  unfold knows; simp only [wanted_put o a d u h1, Runs.put hs h1]

theorem knows.unique {c : Cls} {o : Oper} {a : Act} {J J' : World → Prop} {w : World} (hw : J w) (hJ : c = .read → J' w) {u v : Value} (h : knows P ops c o a J u) (h' : knows P ops c o a J' v) : u = v := by
  rcases h with ⟨h0, rfl⟩ | ⟨h0, h⟩ <;> rcases h' with ⟨h0', rfl⟩ | ⟨h0', h'⟩
  · rfl
  · rw [h0] at h0'; cases h0'
  · rw [h0] at h0'; cases h0'
  · rcases h with ⟨rfl, h⟩ | ⟨rfl, h⟩ <;> rcases h' with ⟨hc, h'⟩ | ⟨hc, h'⟩
    · exact Runs.unique (h w) (h' w)
    · cases hc
    · cases hc
    · exact Runs.unique (h w hw) (h' w (hJ rfl))

theorem knows.pureJ {o : Oper} {a : Act} {J J' : World → Prop} {v : Value} (h : knows P ops .pure o a J v) : knows P ops .pure o a J' v := by
  rcases h with h | ⟨h0, ⟨h1, h2⟩ | ⟨h1, _⟩⟩
  · exact .inl h
  · exact .inr ⟨h0, .inl ⟨h1, h2⟩⟩
  · cases h1

theorem WD.perm : ∀ {l : List Nat} {J : World → Prop} {A A' : As} {a : Act}, A'.M = A.M → A.H.Perm A'.H → WD P ops cl Q l J A a → WD P ops cl Q l J A' a
  | [], J, A, A', a, e, hp, h => fun w hw => h w (by
      have : St A'.M A'.H w := hw
      rw [e] at this
      exact this.perm0 hp.symm)
  | i :: rest, J, A, A', a, e, hp, h => by
    obtain ⟨o, ho, h⟩ := h
    refine ⟨o, ho, ?_⟩
    rcases h with ⟨hw, hk⟩ | ⟨hw, hk⟩
    · exact .inl ⟨hw, WD.perm e hp hk⟩
    · refine .inr ⟨hw, ?_⟩
      cases hc : cl i <;> rw [hc] at hk <;> simp only at hk ⊢
      · obtain ⟨v, hv, hk⟩ := hk; exact ⟨v, hv, WD.perm e hp hk⟩
      · obtain ⟨v, hv, hk⟩ := hk; exact ⟨v, hv, WD.perm e hp hk⟩
      · intro F w hw
        rw [e] at hw
        exact hk F w (hw.perm0 (hp.symm.append_left F))
      · intro w hw
        refine hk w ?_
        have : St A'.M A'.H w := hw
        rw [e] at this
        exact this.perm0 hp.symm
      · obtain ⟨x, hx, hk⟩ := hk
        refine ⟨x, hx, fun b hb => ?_⟩
        refine WD.perm (A := ⟨A.M, (b, x) :: A.H⟩) e (hp.cons _) (hk b ?_)
        obtain ⟨w, hw⟩ := hb
        rw [e] at hw
        exact ⟨w, hw.perm0 (hp.symm.cons _)⟩

theorem WD.swap {x i : Nat} {rest : List Nat} {ox oi : Oper} (hx : ops[x]? = some ox) (hi : ops[i]? = some oi)
    (hsx : ∀ cs b, ox.op ≠ .select cs b) (hsi : ∀ cs b, oi.op ≠ .select cs b) (hap : ox.apart ops oi = true) (hcl : mayPass (cl x) (cl i) = true)
    {J : World → Prop} {A : As} {a : Act} (hSJ : ∀ u, A.st u → J u) (hne : ∃ w, A.st w) (h : WD P ops cl Q (x :: i :: rest) J A a) : WD P ops cl Q (i :: x :: rest) J A a := by
  obtain ⟨h1, h2, h3⟩ := Oper.apart_spec hap
  have h4 : ∀ d, oi.dst = some d → ox.dst ≠ some d := fun d hd he => h2 d he hd
  have cm : ∀ (a : Act) u v, (a.put ox.dst u).put oi.dst v = (a.put oi.dst v).put ox.dst u := fun a u v => Act.put_comm a u v h2
  rw [WD_cons hx] at h
  rw [WD_cons hi]
  cases hcx : (cl x).strong with
  | false =>
    rw [stepD.weak hcx] at h
    obtain ⟨v, hv, h⟩ := h
    rw [WD_cons hi, stepD.put hsi h1 h2] at h
    refine stepD.mono hSJ ?_ h
    intro J' A' u hs' hn' hJ' h'
    rw [WD_cons hx, stepD.weak hcx]
    refine ⟨v, (knows.put hsx h3).2 ?_, h'⟩
    cases hc : cl x <;> rw [hc] at hcx hv hcl
    · exact hv.pureJ
    · have : cl i ≠ .wr := fun e => by rw [e] at hcl; cases hcl
      rw [hJ' this]; exact hv
    · cases hcx
    · cases hcx
    · cases hcx
  | true =>
    -- one way of going on
    obtain ⟨J0, A0, u0, hs0, ⟨w0, hw0⟩, hJ0, hk0⟩ : ∃ J' A' u, (∀ z, As.st A' z → J' z) ∧ (∃ w, As.st A' w) ∧ (cl x ≠ .wr → J' = J) ∧ WD P ops cl Q (i :: rest) J' A' (a.put ox.dst u) := by
      rcases h with ⟨_, hk⟩ | ⟨_, hk⟩
      · exact ⟨J, A, _, hSJ, hne, fun _ => rfl, hk⟩
      · obtain ⟨w, hw⟩ := hne
        cases hc : cl x <;> rw [hc] at hcx hk <;> simp only at hk
        · cases hcx
        · cases hcx
        · obtain ⟨v, w', A', s1, s2, hk⟩ := Oper.does_some (hk [] w hw)
          exact ⟨J, A', v, s2, ⟨w', s1⟩, fun _ => rfl, hk⟩
        · obtain ⟨v, w', J', A', s1, s2, hk⟩ := Oper.does_some (hk w hw)
          exact ⟨J', A', v, s2, ⟨w', s1⟩, fun hn => (hn rfl).elim, hk⟩
        · obtain ⟨xo, hxo, hk⟩ := hk
          have hn : St A.M ((w.heap.size, xo) :: A.H) (w.alloc xo) := St.alloc hw xo
          exact ⟨J, ⟨A.M, (w.heap.size, xo) :: A.H⟩, _, fun z hz => hSJ z (St.tail hz), ⟨_, hn⟩, fun _ => rfl, hk _ ⟨_, hn⟩⟩
    cases hci : (cl i).strong with
    | false =>
      have hpure : cl x = .wr → cl i = .pure := by
        cases hh : cl x <;> cases hh' : cl i <;> simp_all [mayPass, Cls.strong]
      rw [WD_cons hi, stepD.weak hci] at hk0
      obtain ⟨v, hv0, _⟩ := hk0
      have hv1 := (knows.put hsi h1).1 hv0
      have hv : knows P ops (cl i) oi a J v := by
        by_cases hm : cl x = .wr
        · rw [hpure hm] at hv1 ⊢; exact hv1.pureJ
        · rw [hJ0 hm] at hv1; exact hv1
      rw [stepD.weak hci]
      refine ⟨v, hv, ?_⟩
      rw [WD_cons hx, stepD.put hsx h3 h4]
      refine stepD.mono hSJ ?_ h
      intro J' A' u hs' hn' hJ' h'
      rw [WD_cons hi, stepD.weak hci] at h'
      obtain ⟨v', hv', h'⟩ := h'
      have hv1' := (knows.put hsi h1).1 hv'
      obtain ⟨w1, hw1⟩ := hn' hne
      have e : v' = v := knows.unique (hs' _ hw1) (fun hc => by
        by_cases hm : cl x = .wr
        · rw [hpure hm] at hc; cases hc
        · rw [← hJ' hm]; exact hs' _ hw1) hv1' hv
      subst e
      exact h'
    | true =>
      -- i makes a variable, x makes one or turns the world
      have hcn : cl i = .new ∧ (cl x = .eff ∨ cl x = .new) := by
        cases hh : cl x <;> cases hh' : cl i <;> simp_all [mayPass, Cls.strong]
      obtain ⟨hin, hxx⟩ := hcn
      have hJ0' : J0 = J := hJ0 (by rcases hxx with e | e <;> rw [e] <;> decide)
      subst hJ0'
      rw [WD_cons hi, stepD.put hsi h1 h2, hin] at hk0
      rw [hin]
      rcases hk0 with ⟨hwi, _⟩ | ⟨hwi, xo, hxo, _⟩
      · refine .inl ⟨hwi, ?_⟩
        rw [WD_cons hx, stepD.put hsx h3 h4]
        refine stepD.mono hSJ ?_ h
        intro J' A' u hs' hn' hJ' h'
        rw [WD_cons hi, stepD.put hsi h1 h2] at h'
        rcases h' with ⟨_, h'⟩ | ⟨hwi', _⟩
        · exact (cm a u undef) ▸ h'
        · rw [hwi] at hwi'; cases hwi'
      · refine .inr ⟨hwi, xo, hxo, fun b hb => ?_⟩
        rw [WD_cons hx, stepD.put hsx h3 h4]
        have key : ∀ J' A' v, (∀ u, As.st A' u → J' u) → (∃ w, St A'.M ((b, xo) :: A'.H) w) → WD P ops cl Q (i :: rest) J' A' (a.put ox.dst v) → WD P ops cl Q rest J' ⟨A'.M, (b, xo) :: A'.H⟩ ((a.put ox.dst v).put oi.dst (.pointer (some ⟨b, 0, none⟩))) := by
          intro J' A' v hs' hn' h'
          rw [WD_cons hi, hin] at h'
          rcases h' with ⟨hwi', _⟩ | ⟨_, xo', hxo', h'⟩
          · rw [wanted_put oi a ox.dst v h1, hwi] at hwi'; cases hwi'
          · have e : xo' = xo := News.unique w0 ((News.put hsi h1).1 hxo') hxo
            subst e
            exact h' b hn'
        rcases h with ⟨hwx, hk⟩ | ⟨hwx, hk⟩
        · refine .inl ⟨hwx, ?_⟩
          exact key _ _ _ hSJ hb hk
        · refine .inr ⟨hwx, ?_⟩
          rcases hxx with hxe | hxe <;> rw [hxe] at hk ⊢ <;> simp only at hk ⊢
          · intro F w hw
            have hw2 : St A.M ((F ++ [(b, xo)]) ++ A.H) w := by simpa using hw
            refine Oper.does_mono (fun v w' ⟨A', s1, s2, hk⟩ => ?_) (hk (F ++ [(b, xo)]) w hw2)
            have s1' : St A'.M (F ++ ((b, xo) :: A'.H)) w' := by simpa using s1
            refine ⟨⟨A'.M, (b, xo) :: A'.H⟩, s1', fun u hu => s2 u (St.tail hu), ?_⟩
            exact key _ _ _ s2 ⟨w', s1'.unframe⟩ hk
          · obtain ⟨yo, hyo, hk⟩ := hk
            refine ⟨yo, hyo, fun b2 hb2 => ?_⟩
            obtain ⟨w2, hw2⟩ := hb2
            have hn2 : St A.M ((b2, yo) :: A.H) w2 := hw2.suf (.keep (.skip (.refl _)))
            have hn3 : St A.M ((b, xo) :: (b2, yo) :: A.H) w2 := hw2.perm0 (List.Perm.swap _ _ _)
            have := key _ ⟨A.M, (b2, yo) :: A.H⟩ _ (fun u hu => hSJ u (St.tail hu)) ⟨w2, hn3⟩ (hk b2 ⟨w2, hn2⟩)
            exact WD.perm (A := ⟨A.M, (b, xo) :: (b2, yo) :: A.H⟩) rfl (List.Perm.swap _ _ _) this

/-! ### From the text's order to any order -/

def okEdges (ops : Array Oper) (B : Array Nat) : Bool :=
  (List.range ops.size).all fun j => match ops[j]? with
    | none => false
    | some o => (o.after.all fun e => !Region.binds .any e || decide (e.on < j)) &&
      B.getD j 0 == o.after.foldl (fun s e => if Region.binds .any e then s ||| 2 ^ e.on ||| B.getD e.on 0 else s) 0

def okPairs (ops : Array Oper) (cl : Nat → Cls) (B : Array Nat) : Bool :=
  (List.range ops.size).all fun j => (List.range j).all fun i =>
    (B.getD j 0).testBit i || (match ops[i]?, ops[j]? with | some oi, some oj => oi.apart ops oj && mayPass (cl i) (cl j) | _, _ => false)

def okRegion (ops : Array Oper) (cl : Nat → Cls) (B : Array Nat) : Bool := Region.noSelect ops && okEdges ops B && okPairs ops cl B

theorem foldl_bit {B : Array Nat} {i : Nat} : ∀ (l : List Edge) (s : Nat),
    (l.foldl (fun s e => if Region.binds .any e then s ||| 2 ^ e.on ||| B.getD e.on 0 else s) s).testBit i = true →
    s.testBit i = true ∨ ∃ e ∈ l, Region.binds .any e = true ∧ (e.on = i ∨ (B.getD e.on 0).testBit i = true)
  | [], s, h => .inl h
  | e :: l, s, h => by
    rw [List.foldl_cons] at h
    rcases foldl_bit l _ h with h | ⟨e', he, hb, hh⟩
    · split at h
      · rename_i hb
        rw [Nat.testBit_or, Nat.testBit_or, Nat.testBit_two_pow, Bool.or_eq_true, Bool.or_eq_true] at h
        rcases h with (h | h) | h
        · exact .inl h
        · exact .inr ⟨e, .head _, hb, .inl (by simpa using h)⟩
        · exact .inr ⟨e, .head _, hb, .inr h⟩
      · exact .inl h
    · exact .inr ⟨e', .tail _ he, hb, hh⟩

/-- What is listed is closed under what must have come before. -/
structure Closed (ops : Array Oper) (listed : Array Bool) : Prop where
  size : listed.size = ops.size
  closed : ∀ j oj, ops[j]? = some oj → listed.getD j false = true → ∀ e ∈ oj.after, Region.binds .any e = true → listed.getD e.on false = true

theorem okEdges_spec {B : Array Nat} (h : okEdges ops B = true) {listed : Array Bool} (hc : Closed ops listed) :
    ∀ (n j i : Nat), j ≤ n → (B.getD j 0).testBit i = true → (listed.getD j false = true ∨ ∃ oj, ops[j]? = some oj ∧ ∀ e ∈ oj.after, Region.binds .any e = true → listed.getD e.on false = true) → j < ops.size → listed.getD i false = true := by
  intro n
  induction n using Nat.strongRecOn with
  | _ n ih =>
    intro j i hj hb hl hlt
    have h1 := List.all_eq_true.1 h j (List.mem_range.2 hlt)
    obtain ⟨oj, hoj⟩ : ∃ oj, ops[j]? = some oj := ⟨ops[j], Array.getElem?_eq_getElem hlt⟩
    simp only [hoj, Bool.and_eq_true, beq_iff_eq] at h1
    obtain ⟨h2, h3⟩ := h1
    rw [h3, ← Array.foldl_toList] at hb
    have hall : ∀ e ∈ oj.after, Region.binds .any e = true → listed.getD e.on false = true := by
      rcases hl with hl | ⟨o', ho', hl⟩
      · exact hc.closed j oj hoj hl
      · obtain rfl : o' = oj := Option.some.inj (ho'.symm.trans hoj)
        exact hl
    rcases foldl_bit _ _ hb with h0 | ⟨e, he, hbe, hh⟩
    · simp at h0
    · have hel := hall e (Array.mem_toList_iff.1 he) hbe
      have hlt' : e.on < j := by simpa [hbe] using (Array.all_eq_true_iff_forall_mem.1 h2) e (Array.mem_toList_iff.1 he)
      rcases hh with rfl | hh
      · exact hel
      · exact ih e.on (by omega) e.on i (Nat.le_refl _) hh (.inl hel) (by omega)

theorem Closed.set {listed : Array Bool} (hc : Closed ops listed) {i : Nat} (hi : i ∈ Region.ready .any ops listed) : Closed ops (listed.setIfInBounds i true) := by
  obtain ⟨_, oi, hoi, hall⟩ := mem_ready.1 hi
  refine ⟨by simp [hc.size], fun j oj hj hl e he hb => ?_⟩
  by_cases hij : i = j
  · subst hij
    obtain rfl : oj = oi := Option.some.inj (hj.symm.trans hoi)
    exact getD_set_true (hall e he hb)
  · rw [getD_set_ne false hij] at hl
    exact getD_set_true (hc.closed j oj hj hl e he hb)

/-- What is left, in the text's order. -/
def left (n : Nat) (listed : Array Bool) : List Nat := (List.range n).filter fun i => !listed.getD i true

theorem WD.front {B : Array Nat} (hok : okRegion ops cl B = true) {i : Nat} {oi : Oper} (hi : ops[i]? = some oi) {J : World → Prop} {A : As} {a : Act} (hSJ : ∀ u, A.st u → J u) (hne : ∃ w, A.st w) :
    ∀ (pre post : List Nat), (∀ x ∈ pre, x < i ∧ (B.getD i 0).testBit x = false) → WD P ops cl Q (pre ++ i :: post) J A a → WD P ops cl Q (i :: (pre ++ post)) J A a := by
  intro pre
  induction pre generalizing J A a with
  | nil => intro post _ h; exact h
  | cons x pre ih =>
    intro post hpre h
    simp only [okRegion, Bool.and_eq_true] at hok
    obtain ⟨⟨hsel, _⟩, hpairs⟩ := hok
    have hxi := (hpre x (.head _)).1
    have hilt : i < ops.size := (Array.getElem?_eq_some_iff.1 hi).1
    obtain ⟨ox, hox⟩ : ∃ ox, ops[x]? = some ox := ⟨ops[x], Array.getElem?_eq_getElem (by omega)⟩
    have hp := List.all_eq_true.1 (List.all_eq_true.1 hpairs i (List.mem_range.2 hilt)) x (List.mem_range.2 hxi)
    simp only [(hpre x (.head _)).2, Bool.false_or, hox, hi, Bool.and_eq_true] at hp
    refine WD.swap hox hi (fun cs b => Region.noSelect_spec hsel x ox cs b hox) (fun cs b => Region.noSelect_spec hsel i oi cs b hi) hp.1 hp.2 hSJ hne ?_
    rw [List.cons_append, WD_cons hox] at h
    rw [WD_cons hox]
    refine stepD.mono hSJ ?_ h
    intro J' A' v hs' hn' hJ' h'
    exact ih hs' (hn' hne) post (fun y hy => hpre y (.tail _ hy)) h'

theorem filter_split {p : Nat → Bool} {i : Nat} : ∀ {l : List Nat}, i ∈ l → p i = true → l.Pairwise (· < ·) →
    ∃ pre post, l.filter p = pre ++ i :: post ∧ (∀ x ∈ pre, x < i ∧ p x = true) ∧ l.filter (fun j => p j && j != i) = pre ++ post := by
  intro l
  induction l with
  | nil => intro h; cases h
  | cons x l ih =>
    intro hm hp hs
    rw [List.pairwise_cons] at hs
    by_cases hxi : x = i
    · subst hxi
      refine ⟨[], l.filter p, by simp [hp], by simp, ?_⟩
      have : l.filter (fun j => p j && j != x) = l.filter p := List.filter_congr fun j hj => by
        have := hs.1 j hj
        have hne : (j != x) = true := by simp; omega
        simp [hne]
      simp [this]
    · have hm' : i ∈ l := by simpa [Ne.symm hxi] using hm
      obtain ⟨pre, post, h1, h2, h3⟩ := ih hm' hp hs.2
      have hlt := hs.1 i hm'
      cases hpx : p x with
      | true =>
        refine ⟨x :: pre, post, by simp [hpx, h1], ?_, by simp [hpx, hxi, h3]⟩
        intro y hy
        rcases List.mem_cons.1 hy with rfl | hy
        · exact ⟨hlt, hpx⟩
        · exact h2 y hy
      | false => exact ⟨pre, post, by simp [hpx, h1], h2, by simp [hpx, h3]⟩

theorem left_set {n i : Nat} {listed : Array Bool} (hsz : listed.size = n) : left n (listed.setIfInBounds i true) = (List.range n).filter fun j => !listed.getD j true && j != i := by
  refine List.filter_congr fun j hj => ?_
  have hj' := List.mem_range.1 hj
  by_cases hij : i = j
  · subst hij
    have : i < listed.size := by omega
    simp [this]
  · rw [getD_set_ne true hij]
    have : (j != i) = true := by simp; exact fun e => hij e.symm
    simp [this]

theorem WD.sound {ro : Option Nat} {B : Array Nat} (hok : okRegion ops cl B = true) : ∀ (n : Nat) (listed : Array Bool), Closed ops listed → (left ops.size listed).length = n → ∀ (J : World → Prop) (A : As) (a : Act) (w : World),
    (∀ u, A.st u → J u) → A.st w → WD P ops cl Q (left ops.size listed) J A a → wpAnyIn (Fr ro) 0 P .any ops Q n listed a w := by
  intro n
  induction n with
  | zero =>
    intro listed hc hn J A a w hSJ hw h
    have e : left ops.size listed = [] := List.eq_nil_of_length_eq_zero hn
    refine ⟨?_, by rw [e] at h; exact h w hw⟩
    refine List.eq_nil_iff_forall_not_mem.2 fun i hi => ?_
    have h0 := (mem_ready.1 hi).1
    obtain ⟨o, ho, _⟩ := (mem_ready.1 hi).2
    have : i ∈ left ops.size listed := List.mem_filter.2 ⟨List.mem_range.2 (Array.getElem?_eq_some_iff.1 ho).1, by simp only [h0]; rfl⟩
    rw [e] at this; cases this
  | succ n ih =>
    intro listed hc hn J A a w hSJ hw h
    have hstep : ∀ i ∈ Region.ready .any ops listed, wpOpIn (Fr ro) 0 P ops Q i (wpAnyIn (Fr ro) 0 P .any ops Q n (listed.setIfInBounds i true)) a w := by
      intro i hi
      obtain ⟨h0, oi, hoi, hall⟩ := mem_ready.1 hi
      have hilt := (Array.getElem?_eq_some_iff.1 hoi).1
      obtain ⟨pre, post, e1, e2, e3⟩ := filter_split (p := fun i => !listed.getD i true) (List.mem_range.2 hilt) (by simp only [h0]; rfl) (List.pairwise_lt_range (n := ops.size))
      have hok' := hok
      simp only [okRegion, Bool.and_eq_true] at hok'
      have hpre : ∀ x ∈ pre, x < i ∧ (B.getD i 0).testBit x = false := by
        intro x hx
        refine ⟨(e2 x hx).1, ?_⟩
        cases hb : (B.getD i 0).testBit x with
        | false => rfl
        | true =>
          have h1 := okEdges_spec hok'.1.2 hc i i x (Nat.le_refl _) hb (.inr ⟨oi, hoi, hall⟩) hilt
          have h2 := (e2 x hx).2
          have hxlt : x < listed.size := by rw [hc.size]; have := (e2 x hx).1; omega
          simp [hxlt] at h1 h2
          rw [h1] at h2; cases h2
      have e0 : left ops.size listed = pre ++ i :: post := e1
      rw [e0] at h
      have h' := WD.front hok hoi hSJ ⟨w, hw⟩ pre post hpre h
      have el : left ops.size (listed.setIfInBounds i true) = pre ++ post := by rw [left_set hc.size]; exact e3
      have hlen : (left ops.size (listed.setIfInBounds i true)).length = n := by
        rw [el]; rw [e0] at hn; simp at hn ⊢; omega
      rw [WD_cons hoi] at h'
      unfold wpOpIn
      simp only [hoi]
      rcases h' with ⟨hwt, hk⟩ | ⟨hwt, hk⟩
      · simp only [hwt, Bool.false_eq_true, if_false]
        exact ⟨fun _ _ => trivial, ih _ (hc.set hi) hlen J A _ w hSJ hw (by rw [el]; exact hk)⟩
      · simp only [hwt, if_true]
        cases hcl : cl i <;> simp only [hcl] at hk
        · obtain ⟨v, hv, hk⟩ := hk
          exact Runs.wpIn (hv w) (ih _ (hc.set hi) hlen J A _ w hSJ hw (by rw [el]; exact hk))
        · obtain ⟨v, hv, hk⟩ := hk
          exact Runs.wpIn (hv w (hSJ w hw)) (ih _ (hc.set hi) hlen J A _ w hSJ hw (by rw [el]; exact hk))
        · exact Oper.wpIn_of_does (Oper.does_mono (fun v w' ⟨A', s1, s2, hk⟩ => ih _ (hc.set hi) hlen J A' _ w' s2 s1 (by rw [el]; exact hk)) (hk [] w hw))
        · exact Oper.wpIn_of_does (Oper.does_mono (fun v w' ⟨J', A', s1, s2, hk⟩ => ih _ (hc.set hi) hlen J' A' _ w' s2 s1 (by rw [el]; exact hk)) (hk w hw))
        · obtain ⟨xo, hxo, hk⟩ := hk
          have hn : St A.M ((w.heap.size, xo) :: A.H) (w.alloc xo) := St.alloc hw xo
          exact Oper.wpIn_of_does (hxo.does (ih _ (hc.set hi) hlen J ⟨A.M, (w.heap.size, xo) :: A.H⟩ _ _ (fun u hu => hSJ u (St.tail hu)) hn (by rw [el]; exact hk _ ⟨_, hn⟩)))
    refine ⟨fun h0 => ?_, hstep⟩
    -- something is left, so something is ready: the least one that is left
    exfalso
    obtain ⟨i, rest, e⟩ : ∃ i rest, left ops.size listed = i :: rest := by
      cases hl : left ops.size listed with
      | nil => rw [hl] at hn; cases hn
      | cons i rest => exact ⟨i, rest, rfl⟩
    have hmem : i ∈ left ops.size listed := by rw [e]; exact .head _
    obtain ⟨hr, hun⟩ := List.mem_filter.1 hmem
    have hilt := List.mem_range.1 hr
    have hmin : ∀ j, j < i → listed.getD j false = true := by
      intro j hj
      cases hl : listed.getD j false with
      | true => rfl
      | false =>
        have hjs : j < listed.size := by rw [hc.size]; omega
        have hjm : j ∈ left ops.size listed := List.mem_filter.2 ⟨List.mem_range.2 (by omega), by simp [hjs] at hl ⊢; exact hl⟩
        have hsorted : (left ops.size listed).Pairwise (· < ·) := List.Pairwise.filter _ (List.pairwise_lt_range (n := ops.size))
        rw [e] at hjm hsorted
        rcases List.mem_cons.1 hjm with rfl | hjm
        · omega
        · have := (List.pairwise_cons.1 hsorted).1 j hjm; omega
    have hok' := hok
    simp only [okRegion, Bool.and_eq_true] at hok'
    have h1 := List.all_eq_true.1 hok'.1.2 i hr
    obtain ⟨oi, hoi⟩ : ∃ oi, ops[i]? = some oi := ⟨ops[i], Array.getElem?_eq_getElem hilt⟩
    simp only [hoi, Bool.and_eq_true] at h1
    have : i ∈ Region.ready .any ops listed := mem_ready.2 ⟨by simpa using hun, oi, hoi, fun e he hbe => hmin _ (by simpa [hbe] using (Array.all_eq_true_iff_forall_mem.1 h1.1) e he)⟩
    rw [h0] at this; cases this

theorem left_start (n : Nat) : left n (Array.replicate n false) = List.range n := by
  refine List.filter_eq_self.2 fun i hi => ?_
  have := List.mem_range.1 hi
  simp [this]

theorem wp_region_WD {ro : Option Nat} {id : Nat} {a : Act} {w : World} {B : Array Nat} (hm : P.follows .mixedOrders = true) (hok : okRegion ops cl B = true) {J : World → Prop} {A : As} (hSJ : ∀ u, A.st u → J u)
    (hw : A.st { w with drawn := w.drawn + 1 }) (h : WD P ops cl Q (List.range ops.size) J A a) : (Code.region id ops true).wpIn (Fr ro) 0 P Q a w := by
  refine wpIn_region_any hm (WD.sound hok ops.size _ ⟨by simp, fun j oj hj hl => ?_⟩ (by rw [left_start]; simp) J A a _ hSJ hw (by rw [left_start]; exact h))
  rcases Nat.lt_or_ge j ops.size with h' | h'
  · simp [h'] at hl
  · simp [h'] at hl
end
end Go.Esp
