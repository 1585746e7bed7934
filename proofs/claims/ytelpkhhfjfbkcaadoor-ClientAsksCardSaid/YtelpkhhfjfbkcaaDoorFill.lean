/-
  What a composite literal comes to.
-/
import Derived.Test.YtelpkhhfjfbkcaaDoorOps
set_option linter.unusedSimpArgs false
set_option linter.unusedVariables false
set_option linter.unnecessarySimpa false
namespace Go.Esp

theorem foldl_set (off : Nat) : ∀ (vs : List Value) (k : Nat) (cs : Array Value), off + k + vs.length ≤ cs.size →
    ((vs.zipIdx k).foldl (fun cs (p : Value × Nat) => cs.setIfInBounds (off + p.2) p.1) cs).toList = cs.toList.take (off + k) ++ vs ++ cs.toList.drop (off + k + vs.length)
  | [], k, cs, h => by simp
  | v :: vs, k, cs, h => by
    simp only [List.length_cons] at h
    rw [List.zipIdx_cons, List.foldl_cons, foldl_set off vs (k + 1) _ (by simp; omega)]
    simp only [Array.toList_setIfInBounds]
    have h1 : off + k < cs.toList.length := by simp; omega
    rw [List.take_set, List.drop_set, if_pos (by omega)]
    rw [show off + (k + 1) = off + k + 1 by omega, List.take_add_one]
    have e : cs.toList[off + k]? = some cs.toList[off + k] := List.getElem?_eq_getElem h1
    rw [e]
    simp only [Option.toList_some, List.length_cons]
    rw [List.set_append_right _ _ (by simp; omega)]
    simp only [List.length_take, Nat.min_eq_left (Nat.le_of_lt h1), Nat.sub_self, List.set_cons_zero]
    simp
    rw [show off + k + 1 + vs.length = off + k + (vs.length + 1) by omega]

def offs : List Segs → Nat → Nat
  | _, 0 => 0
  | [], _ + 1 => 0
  | z :: zs, i + 1 => Segs.len z + offs zs i

def cat : List Segs → Segs
  | [] => []
  | z :: zs => z ++ cat zs

/-- The i-th of them, turned to another one of as many cells. -/
def setPart : List Segs → Nat → Segs → Option (List Segs)
  | [], _, _ => none
  | z :: zs, 0, r => match Nat.beq (Segs.len z) (Segs.len r) with
    | true => some (r :: zs)
    | false => none
  | z :: zs, i + 1, r => match setPart zs i r with
    | some zs' => some (z :: zs')
    | none => none

def setParts : List Segs → List (Nat × Segs) → Option (List Segs)
  | zs, [] => some zs
  | zs, (i, r) :: ps => match setPart zs i r with
    | some zs' => setParts zs' ps
    | none => none

theorem setPart_spec : ∀ {zs zs' : List Segs} {i : Nat} {r : Segs}, setPart zs i r = some zs' →
    ∃ p z q, zs = p ++ z :: q ∧ zs' = p ++ r :: q ∧ p.length = i ∧ Segs.len z = Segs.len r
  | [], _, _, _, h => by simp [setPart] at h
  | z :: zs, zs', 0, r, h => by
    unfold setPart at h
    split at h
    · rename_i hb
      obtain rfl := Option.some.inj h
      exact ⟨[], z, zs, rfl, rfl, rfl, Nat.eq_of_beq_eq_true hb⟩
    · cases h
  | z :: zs, zs', i + 1, r, h => by
    unfold setPart at h
    split at h
    · rename_i zs'' h'
      obtain rfl := Option.some.inj h
      obtain ⟨p, y, q, e1, e2, e3, e4⟩ := setPart_spec h'
      exact ⟨z :: p, y, q, by simp [e1], by simp [e2], by simp [e3], e4⟩
    · cases h

theorem cat_append : ∀ a b : List Segs, cat (a ++ b) = cat a ++ cat b
  | [], b => rfl
  | x :: a, b => by simp [cat, cat_append a b]

theorem offs_append : ∀ (p q : List Segs), offs (p ++ q) p.length = Segs.len (cat p)
  | [], q => by cases q <;> simp [offs, cat, Segs.len]
  | x :: p, q => by simp [offs, cat, Segs.len_append, offs_append p q]

theorem offs_same : ∀ {zs zs' : List Segs} {i : Nat} {r : Segs}, setPart zs i r = some zs' → ∀ j, offs zs' j = offs zs j
  | [], _, _, _, h, _ => by simp [setPart] at h
  | z :: zs, zs', 0, r, h, j => by
    obtain ⟨p, y, q, e1, e2, e3, e4⟩ := setPart_spec h
    have hp : p = [] := List.eq_nil_of_length_eq_zero e3
    subst hp
    simp only [List.nil_append, List.cons.injEq] at e1
    obtain ⟨rfl, rfl⟩ := e1
    subst e2
    cases j <;> simp [offs, e4]
  | z :: zs, zs', i + 1, r, h, j => by
    unfold setPart at h
    split at h
    · rename_i zs'' h'
      obtain rfl := Option.some.inj h
      cases j with
      | zero => rfl
      | succ j => simp [offs, offs_same h' j]
    · cases h

/-- The parts' places in a literal: each has the offset and the size that its part has. -/
def placed (zs : List Segs) (place : Nat → Option (Nat × Nat)) : Prop := ∀ i z, zs[i]? = some z → place i = some (offs zs i, Segs.len z)

inductive PartsL : List (Nat × Segs) → List (Nat × Value) → Prop
  | nil : PartsL [] []
  | cons {i : Nat} {v : Value} {r : Segs} {ps : List (Nat × Segs)} {vs : List (Nat × Value)} : Parts v r → PartsL ps vs → PartsL ((i, r) :: ps) ((i, v) :: vs)

theorem fill_parts : ∀ (ps : List (Nat × Segs)) (vs : List (Nat × Value)) (zs zs' : List Segs) (place : Nat → Option (Nat × Nat)), placed zs place →
    PartsL ps vs → setParts zs ps = some zs' → Instr.fill place (Segs.cells (cat zs)).toArray vs = some (Segs.cells (cat zs')).toArray
  | [], vs, zs, zs', place, hp, hv, h => by
    cases hv
    obtain rfl := Option.some.inj h
    rfl
  | (i, r) :: ps, vs, zs, zs', place, hp, hv, h => by
    cases hv with
    | @cons _ v _ _ vs hv hvs =>
    unfold setParts at h
    split at h
    · rename_i zs1 h1
      obtain ⟨p, z, q, e1, e2, e3, e4⟩ := setPart_spec h1
      have hz : zs[i]? = some z := by rw [e1, ← e3]; simp
      have hpl := hp i z hz
      have hoff : offs zs i = Segs.len (cat p) := by rw [e1, ← e3]; exact offs_append p _
      unfold Instr.fill
      rw [hpl]
      have hsz : v.cells.size = Segs.len r := by rw [hv.cells]; simp [Segs.cells_length]
      have htot : Segs.len (cat zs) = Segs.len (cat p) + (Segs.len z + Segs.len (cat q)) := by rw [e1, cat_append, Segs.len_append]; simp [cat, Segs.len_append]
      have hno : (v.cells.size ≠ Segs.len z || offs zs i + v.cells.size > (Segs.cells (cat zs)).toArray.size) = false := by
        simp [hsz, e4, Segs.cells_length, hoff, htot]
      simp only [hno, Bool.false_eq_true, if_false]
      have hcells : v.cells.zipIdx.foldl (fun cs (x : Value × Nat) => cs.setIfInBounds (offs zs i + x.2) x.1) (Segs.cells (cat zs)).toArray = (Segs.cells (cat zs1)).toArray := by
        apply Array.ext'
        rw [← Array.foldl_toList, Array.toList_zipIdx, hv.cells]
        have := foldl_set (offs zs i) (Segs.cells r) 0 (Segs.cells (cat zs)).toArray (by simp [Segs.cells_length, hoff, htot, e4])
        simp only [Nat.add_zero] at this
        rw [show (Segs.cells r).toArray.toList = Segs.cells r from rfl, this]
        rw [hoff, e1, e2]
        simp only [cat_append, cat, Segs.cells_append, ← Segs.cells_length (cat p)]
        have hl : (Segs.cells r).length = (Segs.cells z).length := by simp [Segs.cells_length, e4]
        simp [hl, List.drop_append]
      rw [hcells]
      refine fill_parts ps vs zs1 zs' place (fun k y hk => ?_) hvs h
      rw [offs_same h1 k]
      by_cases hki : k = i
      · subst hki
        have : zs1[k]? = some r := by rw [e2, ← e3]; simp
        rw [this] at hk
        obtain rfl := Option.some.inj hk
        rw [← e4]; exact hpl
      · refine hp k y ?_
        rw [← hk, e1, e2]
        rw [← e3] at hki
        rcases Nat.lt_or_ge k p.length with h' | h'
        · rw [List.getElem?_append_left h', List.getElem?_append_left h']
        · obtain ⟨m, rfl⟩ : ∃ m, k = p.length + (m + 1) := ⟨k - p.length - 1, by omega⟩
          rw [List.getElem?_append_right (by omega), List.getElem?_append_right (by omega), show p.length + (m + 1) - p.length = m + 1 by omega]
          rfl
    · cases h
end Go.Esp
