/-
  Loops whose world stays, or stays but for what the loop owns.
-/
import Derived.Test.YtelpkhhfjfbkcaaDoorArr
set_option linter.unusedSimpArgs false
set_option linter.unusedVariables false
set_option linter.unnecessarySimpa false
namespace Go.Esp
section
variable {P : Program} {n : Sh} {ops : Array Oper} {Q : Exit → Act → World → Prop} {M M' : Mem} {H H' H0 : Hp} {e : Env} {S : World → Prop}

def RoundS {α : Type} (n : Sh) (e0 : Env) (S0 : World → Prop) (I : α → Env → Prop) (μ : α → Nat) (x : α) : Act → World → Prop :=
  Round n e0 (fun x S z => S = S0 ∧ I x z) μ x

/-- A loop in a world that stays as it is. -/
theorem C_loopS {α : Type} {c : Code} {a0 e0 : Env} (hs : Spl e a0 e0) (I : α → Env → Prop) (μ : α → Nat) (x0 : α) (h0 : I x0 a0)
    (round : ∀ x z, I x z → C P n c (Exit.then (RoundS n e0 S I μ x) Q) S (z ++ e0)) : C P n (.loop c) Q S e :=
  C_loop hs (fun x S' z => S' = S ∧ I x z) μ x0 ⟨rfl, h0⟩ (fun x S' z ⟨h1, h2⟩ => by subst h1; exact round x z h2)

theorem K_roundS {α : Type} {a' e0 : Env} {S0 : World → Prop} {I : α → Env → Prop} {μ : α → Nat} {x : α} (y : α) (hp : Pick e (a' ++ e0)) (hS : ∀ w, S w → S0 w) (hI : I y a') (hμ : μ y < μ x) :
    K n (Exit.then (RoundS n e0 S0 I μ x) Q) .normal S e := fun _ _ ha hw => ⟨y, S0, a', ⟨rfl, hI⟩, hμ, ha.pick hp, hS _ hw⟩

def RoundO {α : Type} (n : Sh) (e0 : Env) (M : Mem) (H0 : Hp) (I : α → Mem → Hp → Env → Prop) (μ : α → Nat) (x : α) : Act → World → Prop :=
  Round n e0 (fun x S z => ∃ M1 h1, M.le M1 ∧ S = St M1 (h1 ++ H0) ∧ I x M1 h1 z) μ x

/-- A loop that turns what it owns, and makes what never changes. -/
theorem C_loopO {α : Type} {c : Code} {a0 e0 : Env} {Hin : Hp} (hs : Spl e a0 e0) (hR : Rem Hin H H0) (I : α → Mem → Hp → Env → Prop) (μ : α → Nat) (x0 : α) (h0 : I x0 M Hin a0)
    (round : ∀ x M1 h1 z, M.le M1 → I x M1 h1 z → C P n c (Exit.then (RoundO n e0 M H0 I μ x) Q) (St M1 (h1 ++ H0)) (z ++ e0)) : C P n (.loop c) Q (St M H) e :=
  C_weak (fun _ h => h) (fun _ hw => hw.perm hR.perm)
    (C_loop hs (fun x S' z => ∃ M1 h1, M.le M1 ∧ S' = St M1 (h1 ++ H0) ∧ I x M1 h1 z) μ x0 ⟨M, Hin, Mem.le.refl M, rfl, h0⟩ (fun x S' z ⟨M1, h1, hm, e1, h2⟩ => by subst e1; exact round x M1 h1 z hm h2))

theorem K_roundO {α : Type} {a' e0 : Env} {I : α → Mem → Hp → Env → Prop} {μ : α → Nat} {x : α} {M2 : Mem} (y : α) (h2 : Hp) (hp : Pick e (a' ++ e0)) (hm : M.le M2) (hS : ∀ w, S w → St M2 (h2 ++ H0) w) (hI : I y M2 h2 a') (hμ : μ y < μ x) :
    K n (Exit.then (RoundO n e0 M H0 I μ x) Q) .normal S e := fun _ _ ha hw => ⟨y, _, a', ⟨M2, h2, hm, rfl, hI⟩, hμ, ha.pick hp, hS _ hw⟩
theorem does_callV {f : FuncId} {g : Operand} {xs : Array Operand} {ats : Array TypeId} {dst : Option Tmp} {ty : TypeId} {pos : String} {af : Array Edge} {gd : Option (Nat × Bool)} {a : Act} {w : World} {vs caps : List Value} {fn : Func} {K : Value → World → Prop} (hf : P.funcs[f]? = some fn) (hb : fn.body.isSome = true) (hn : (fn.name == "runtime.NumGoroutine") = false)
    (hg : a.eval g = .func (.func f) #[] caps.toArray) (hv : xs.toList.map a.eval = vs) (h : Calls P f (vs ++ caps).toArray w fun e w' => ∃ v, e = .returned v ∧ K v w') :
    Oper.does P ⟨dst, .call ⟨.value g, xs, ats⟩, ty, pos, af, gd⟩ a w K := by
  unfold Oper.does
  have : (execOp a.eval ⟨dst, .call ⟨.value g, xs, ats⟩, ty, pos, af, gd⟩).run P w = .ok (.enter f (vs ++ caps).toArray) w := by
    simp only [execOp, resolve, hg, Deferred.ofValue, pure_bind, invoke]
    have e : #[] ++ xs.map a.eval ++ caps.toArray = (vs ++ caps).toArray := by
      apply Array.ext'
      simp [hv]
    rw [e]
    unfold callFunc
    rw [Sem.run_bind]
    show (Result.ok P w).andThen _ = _
    rw [Result.andThen_ok]
    simp only [hf, hn, Bool.false_eq_true, if_false]
    have : fn.body.isNone = false := by cases h' : fn.body <;> simp_all
    simp only [this, Bool.false_eq_true, if_false]
    rfl
  rw [this]
  exact h

/-- A call of a closure that changes nothing that was there. -/
theorem X_foV {i : Nat} {rest : List Nat} {J : World → Prop} {dst : Option Tmp} {ty : TypeId} {pos : String} {af : Array Edge} {gd : Option (Nat × Bool)} {f : FuncId} {g : Operand} {xs : List Operand} {ats : Array TypeId} {vs caps : List Value} {Hin : Hp} {R : Mem → Value → Prop} (hi : ops[i]? = some ⟨dst, .call ⟨.value g, xs.toArray, ats⟩, ty, pos, af, gd⟩) (hcl : clOf P (.call ⟨.value g, xs.toArray, ats⟩) = .eff) (hg : want ops e gd = some true)
    (hf : okFn P f = true) (hgv : ev e g = some (.func (.func f) #[] caps.toArray)) (hx : evs e xs = some vs) (hc : Fo P f (vs ++ caps) M Hin R) (hH : Rem Hin H H0) (hd : ∀ a v, Sat n e a → Sat n (putE dst v e) (a.put dst v))
    (hk : ∀ v M', M.le M' → R M' v → XD P n ops Q rest J ⟨M', H⟩ (putE dst v e)) : XD P n ops Q (i :: rest) J ⟨M, H⟩ e := by
  obtain ⟨fn, h1, h2, h3⟩ := okFn_spec hf
  refine X_eff hi hcl hg (fun a F w ha hw => does_callV h1 h2 h3 (ha.ev hgv) (by simpa using ha.evs hx) ?_)
  exact (hc (F ++ H0) w (hw.perm0 ((hH.perm.append_left F).trans (swapF F Hin H0)))).mono fun e' w' ⟨v, M', he, hm, hs, hr⟩ => ⟨v, he, ⟨M', H⟩, _, hs.perm0 ((hH.perm.append_left F).trans (swapF F Hin H0)).symm, fun _ h => St.lower h hm, hd a v ha, hk v M' hm hr⟩

theorem fs_of_fo {f : FuncId} {vs : List Value} {R : Value → Prop} (h : Fo P f vs M [] (fun M' v => M' = M ∧ R v)) : Fs P f vs M R := fun H w hw =>
  (h H w hw).mono fun e w' ⟨v, M', he, _, hs, h1, h2⟩ => ⟨v, he, by rw [h1] at hs; exact hs, h2⟩
theorem St.rdl {M : Mem} {w : World} {hs H : Hp} (h : St M (hs ++ H) w) : St M hs w := h.cnt (fun x => by rw [cnt_app]; omega)
end
/-- The place of a number in a row; below 0: it is not there. -/
def idxI (x : Int) (l : List Int) : Int := if x ∈ l then (l.idxOf x : Int) else -1
theorem idxI_at {x : Int} {l : List Int} {k : Nat} (hk : k < l.length) (h1 : x ∉ l.take k) (h2 : x = l[k]) : idxI x l = k := by
  have hm : x ∈ l := by rw [h2]; exact List.getElem_mem hk
  unfold idxI
  rw [if_pos hm]
  have h3 : l.idxOf x < l.length := List.idxOf_lt_length_of_mem hm
  have h4 : l[l.idxOf x] = x := List.getElem_idxOf h3
  have h5 : l.idxOf x ≤ k := by
    rcases Nat.lt_or_ge k (l.idxOf x) with h | h
    · exfalso
      have := List.not_of_lt_findIdx (p := (· == x)) (xs := l) (i := k) h
      simp [h2] at this
    · exact h
  rcases Nat.lt_or_ge (l.idxOf x) k with h | h
  · exfalso
    apply h1
    rw [List.mem_take_iff_getElem]
    exact ⟨l.idxOf x, by omega, h4⟩
  · congr 1; omega
theorem idxI_none {x : Int} {l : List Int} (h : x ∉ l) : idxI x l = -1 := by unfold idxI; rw [if_neg h]
theorem idxI_nn {x : Int} {l : List Int} : 0 ≤ idxI x l ↔ x ∈ l := by
  unfold idxI; split <;> simp_all <;> omega
theorem not_take_succ {x : Int} {l : List Int} {k : Nat} (hk : k < l.length) (h1 : x ∉ l.take k) (h2 : ¬ x = l[k]) : x ∉ l.take (k + 1) := by
  rw [List.take_add_one, List.getElem?_eq_getElem hk]
  intro h
  rcases List.mem_append.1 h with h | h
  · exact h1 h
  · exact h2 (by simpa using h)

theorem take_succ_eq {α : Type} {l m : List α} {k : Nat} (hk : k < l.length) (hk' : k < m.length) (h : l.take k = m.take k) (e : l[k] = m[k]) : l.take (k + 1) = m.take (k + 1) := by
  rw [List.take_add_one, List.take_add_one, List.getElem?_eq_getElem hk, List.getElem?_eq_getElem hk', h, e]
theorem eq_of_take {α : Type} {l m : List α} {k : Nat} (hk : k = l.length) (hl : l.length = m.length) (h : l.take k = m.take k) : l = m := by
  subst hk
  rw [List.take_length, hl, List.take_length] at h
  exact h
theorem ne_at {α : Type} {l m : List α} {k : Nat} (hk : k < l.length) (hk' : k < m.length) (e : ¬ l[k] = m[k]) : ¬ l = m := by
  rintro rfl; exact e rfl
theorem OSl.valL {α : Type} {T sz : Nat} {v : Value} {hs : Hp} {f : α → Segs} {l : List α} (h : OSl T sz v hs (l.map f)) : ∃ a c, v = .slice a l.length c := by
  obtain ⟨a, c, h1⟩ := h.val
  rw [List.length_map] at h1
  exact ⟨a, c, h1⟩
theorem take_map_succ {α β : Type} {l : List α} {k : Nat} (f : α → β) (hk : k < l.length) : (l.take (k + 1)).map f = (l.take k).map f ++ [f l[k]] := by
  rw [List.take_add_one, List.getElem?_eq_getElem hk, List.map_append]; rfl
/-- The first place at which something holds. -/
def firstP (p : Nat → Bool) : Nat → Nat
  | 0 => 0
  | n + 1 => if firstP p n < n then firstP p n else if p n then n else n + 1

theorem firstP_spec (p : Nat → Bool) : ∀ n, firstP p n ≤ n ∧ (∀ x, x < firstP p n → p x = false) ∧ (firstP p n < n → p (firstP p n) = true)
  | 0 => ⟨Nat.le_refl 0, fun x h => (by cases h), fun h => (by cases h)⟩
  | n + 1 => by
    obtain ⟨h1, h2, h3⟩ := firstP_spec p n
    unfold firstP
    split
    · exact ⟨by omega, h2, fun _ => h3 (by assumption)⟩
    · rename_i hn
      have e : firstP p n = n := by omega
      rw [e] at h2
      split
      · rename_i hp; exact ⟨by omega, h2, fun _ => hp⟩
      · rename_i hp
        refine ⟨by omega, fun x hx => ?_, fun h => by omega⟩
        rcases Nat.lt_or_ge x n with h | h
        · exact h2 x h
        · obtain rfl : x = n := by omega
          simpa using hp

theorem firstP_at {p : Nat → Bool} {n a : Nat} (ha : a ≤ n) (h1 : ∀ x, x < a → p x = false) (h2 : a < n → p a = true) : firstP p n = a := by
  obtain ⟨g1, g2, g3⟩ := firstP_spec p n
  rcases Nat.lt_trichotomy (firstP p n) a with h | h | h
  · have := h1 _ h; rw [g3 (by omega)] at this; cases this
  · exact h
  · have := g2 a h; rw [h2 (by omega)] at this; cases this
end Go.Esp
