/-
  Errors as trees: codes, wraps, joins.
-/
import Derived.Test.YtelpkhhfjfbkcaaDoorErrs
set_option linter.unusedSimpArgs false
set_option linter.unusedVariables false
set_option linter.unnecessarySimpa false
namespace Go.Esp

inductive Err where
  | code (c : Int)
  | wrap (op : ByteArray) (e : Err)
  | join (l : List Err)

mutual
def Err.codes : Err → List Int
  | .code c => [c]
  | .wrap _ e => e.codes
  | .join l => codesL l
def codesL : List Err → List Int
  | [] => []
  | e :: r => e.codes ++ codesL r
end

mutual
/-- What an error's value is like: 111 a code's type, 116, 118 a wrap's pointer and struct, 119, 121 a join's. -/
def ErrV (M : Mem) : Err → Value → Prop
  | .code c, v => v = .iface 111 (aggV [.one (.int .i64 c)])
  | .wrap op e, v => ∃ b w, v = .iface 116 (.pointer (some ⟨b, 0, none⟩)) ∧ M b = some (rowO [.one (.string op), .one w] 118) ∧ ErrV M e w
  | .join l, v => l ≠ [] ∧ ∃ b ws a c, v = .iface 119 (.pointer (some ⟨b, 0, none⟩)) ∧ M b = some (rowO [.one (.slice a ws.length c)] 121) ∧ SlM M a (ws.map fun u => [.one u]) 1 ∧ ws.length ≤ maxLen ∧ ErrL M l ws
def ErrL (M : Mem) : List Err → List Value → Prop
  | [], ws => ws = []
  | e :: r, ws => ∃ w ws', ws = w :: ws' ∧ ErrV M e w ∧ ErrL M r ws'
end

mutual
theorem ErrV.mono {M M' : Mem} (hm : M.le M') : ∀ (e : Err) {v : Value}, ErrV M e v → ErrV M' e v
  | .code c, v, h => h
  | .wrap op e, v, h => by
    obtain ⟨b, w, h1, h2, h3⟩ := h
    exact ⟨b, w, h1, hm.1 _ _ h2, ErrV.mono hm e h3⟩
  | .join l, v, h => by
    obtain ⟨h0, b, ws, a, c, h1, h2, h3, h4, h5⟩ := h
    exact ⟨h0, b, ws, a, c, h1, hm.1 _ _ h2, h3.mono hm, h4, ErrL.mono hm l h5⟩
theorem ErrL.mono {M M' : Mem} (hm : M.le M') : ∀ (l : List Err) {ws : List Value}, ErrL M l ws → ErrL M' l ws
  | [], ws, h => h
  | e :: r, ws, h => by
    obtain ⟨w, ws', h1, h2, h3⟩ := h
    exact ⟨w, ws', h1, ErrV.mono hm e h2, ErrL.mono hm r h3⟩
end

theorem ErrV.iface {M : Mem} : ∀ {e : Err} {v : Value}, ErrV M e v → ∃ t u, v = .iface t u
  | .code c, v, h => ⟨_, _, h⟩
  | .wrap op e, v, ⟨b, w, h1, _⟩ => ⟨_, _, h1⟩
  | .join l, v, ⟨_, b, ws, a, c, h1, _⟩ => ⟨_, _, h1⟩

theorem ErrL.len {M : Mem} : ∀ {l : List Err} {ws : List Value}, ErrL M l ws → ws.length = l.length
  | [], _, rfl => rfl
  | e :: r, ws, h => by
    obtain ⟨w, ws', rfl, _, h3⟩ := h
    simp [ErrL.len h3]

theorem ErrL.at {M : Mem} : ∀ {l : List Err} {ws : List Value}, ErrL M l ws → ∀ (k : Nat) (h1 : k < l.length) (h2 : k < ws.length), ErrV M l[k] ws[k]
  | [], _, rfl, k, h1, _ => by cases h1
  | e :: r, ws, h, k, h1, h2 => by
    obtain ⟨w, ws', rfl, g1, g2⟩ := h
    cases k with
    | zero => exact g1
    | succ k => exact ErrL.at g2 k (by simpa using h1) (by simpa using h2)

theorem codesL_append (a b : List Err) : codesL (a ++ b) = codesL a ++ codesL b := by
  induction a with
  | nil => simp [codesL]
  | cons x a ih => simp [codesL, ih]

theorem codesL_take {l : List Err} {k : Nat} (hk : k < l.length) : codesL (l.take (k + 1)) = codesL (l.take k) ++ l[k].codes := by
  rw [List.take_add_one, List.getElem?_eq_getElem hk, codesL_append]
  simp [codesL]

mutual
theorem ErrV.codes_ne {M : Mem} : ∀ {e : Err} {v : Value}, ErrV M e v → e.codes ≠ []
  | .code c, v, h => by simp [Err.codes]
  | .wrap op e, v, h => by
    obtain ⟨b, w, _, _, h3⟩ := h
    simpa [Err.codes] using ErrV.codes_ne h3
  | .join l, v, h => by
    obtain ⟨h0, b, ws, a, c, _, _, _, _, h5⟩ := h
    simpa [Err.codes] using ErrL.codes_ne h5 h0
theorem ErrL.codes_ne {M : Mem} : ∀ {l : List Err} {ws : List Value}, ErrL M l ws → l ≠ [] → codesL l ≠ []
  | [], ws, _, h => (h rfl).elim
  | e :: r, ws, h, _ => by
    obtain ⟨w, ws', _, h2, _⟩ := h
    simp only [codesL]
    intro e0
    exact ErrV.codes_ne h2 (List.append_eq_nil_iff.1 e0).1
end

theorem head_join {M : Mem} {l : List Err} {ws : List Value} (h : ErrL M l ws) (h0 : 0 < l.length) : (codesL l).headD 0 = (l[0].codes).headD 0 := by
  cases l with
  | nil => cases h0
  | cons e r =>
    obtain ⟨w, ws', _, h2, _⟩ := h
    have := ErrV.codes_ne h2
    simp only [codesL, List.getElem_cons_zero]
    cases hc : e.codes with
    | nil => exact (this hc).elim
    | cons a b => simp

theorem codesL_sub {l : List Err} {k : Nat} {x : Int} (h : x ∈ codesL (l.take k)) : x ∈ codesL l := by
  have : codesL l = codesL (l.take k) ++ codesL (l.drop k) := by rw [← codesL_append, List.take_append_drop]
  rw [this]
  exact List.mem_append_left _ h

/-- The error of a code; that of 0 is none. -/
def newE (c : Int) : Value := if c = 0 then .nilIface else .iface 111 (aggV [.one (.int .i64 c)])

mutual
/-- How much is in an error. -/
def Err.big : Err → Nat
  | .code _ => 1
  | .wrap _ e => e.big + 1
  | .join l => bigL l + 1
def bigL : List Err → Nat
  | [] => 0
  | e :: r => e.big + bigL r
end

theorem big_mem {l : List Err} {k : Nat} (hk : k < l.length) : l[k].big ≤ bigL l := by
  induction l generalizing k with
  | nil => cases hk
  | cons e r ih =>
    cases k with
    | zero => simp [bigL]
    | succ k => have := ih (k := k) (by simpa using hk); simp [bigL] at this ⊢; omega
end Go.Esp
