/-
  Circles of peers, in plain Lean.
-/
import Derived.Test.YtelpkhhfjfbkcaaDoorIdent
import Derived.Test.YtelpkhhfjfbkcaaDoorTypes
set_option linter.unusedSimpArgs false
set_option linter.unusedVariables false
set_option linter.unnecessarySimpa false
namespace Go.Esp

def LessP (a b : Plc) : Prop := a.toNat < b.toNat
instance (a b : Plc) : Decidable (LessP a b) := by unfold LessP; exact inferInstance
theorem cmpP_neg {a b : Plc} : cmpP a b < 0 ↔ LessP a b := by
  unfold cmpP LessP
  split
  · rename_i h; simp [h]
  · rename_i h
    split <;> simp [h]

def CircOk (l : List PeerV) : Prop := (∀ p ∈ l, 0 ≤ p.addr ∧ p.addr ≤ 999) ∧ (l.map PeerV.addr).Nodup ∧ l.Pairwise (fun p q => LessP p.id q.id)
instance (l : List PeerV) : Decidable (CircOk l) := by unfold CircOk; exact inferInstance
def IsCircle (l : List PeerV) : Prop := (1 ≤ l.length ∧ l.length ≤ 16) ∧ CircOk l
instance (l : List PeerV) : Decidable (IsCircle l) := by unfold IsCircle; exact inferInstance

theorem circ_pre {l : List PeerV} (h : CircOk l) (k : Nat) : CircOk (l.take k) :=
  ⟨fun p hp => h.1 p (List.mem_of_mem_take hp), h.2.1.sublist ((List.take_sublist k l).map _), h.2.2.sublist (List.take_sublist k l)⟩

theorem circ_take {l : List PeerV} {k : Nat} (hk : k < l.length) : CircOk (l.take (k + 1)) ↔ CircOk (l.take k) ∧ (0 ≤ l[k].addr ∧ l[k].addr ≤ 999) ∧ l[k].addr ∉ (l.take k).map PeerV.addr ∧ (∀ h : 0 < k, LessP (l[k - 1]'(by omega)).id l[k].id) := by
  have e : l.take (k + 1) = l.take k ++ [l[k]] := by rw [List.take_add_one, List.getElem?_eq_getElem hk]; rfl
  rw [e]
  unfold CircOk
  simp only [List.mem_append, List.mem_singleton, List.map_append, List.map_cons, List.map_nil, List.nodup_append, List.pairwise_append, List.pairwise_singleton, List.nodup_cons, List.not_mem_nil, not_false_eq_true, List.nodup_nil, and_true, true_and]
  constructor
  · rintro ⟨h1, ⟨h2, h3⟩, h4, h5⟩
    refine ⟨⟨fun p hp => h1 p (.inl hp), h2, h4⟩, h1 _ (.inr rfl), fun hm => h3 _ hm _ rfl rfl, fun h0 => ?_⟩
    refine h5 _ ?_ _ rfl
    rw [List.mem_take_iff_getElem]
    exact ⟨k - 1, by omega, rfl⟩
  · rintro ⟨⟨h1, h2, h3⟩, h4, h5, h6⟩
    refine ⟨fun p hp => ?_, ⟨h2, fun a ha b hb => ?_⟩, h3, fun p hp q hq => ?_⟩
    · rcases hp with hp | rfl
      · exact h1 p hp
      · exact h4
    · subst hb; intro e; subst e; exact h5 ha
    · subst hq
      rw [List.mem_take_iff_getElem] at hp
      obtain ⟨j, hj, rfl⟩ := hp
      have hjk : j < k := by omega
      have hlast := h6 (by omega)
      rcases Nat.lt_or_ge j (k - 1) with h | h
      · have := (List.pairwise_iff_getElem.1 h3) j (k - 1) (by simp; omega) (by simp; omega) h
        simp only [List.getElem_take] at this
        exact Nat.lt_trans this hlast
      · have : j = k - 1 := by omega
        subst this; exact hlast

theorem mem_map_take {l : List PeerV} {k j : Nat} (hj : j < k) (hk : k ≤ l.length) : (l[j]'(by omega)).addr ∈ (l.take k).map PeerV.addr := by
  refine List.mem_map.2 ⟨l[j]'(by omega), ?_, rfl⟩
  rw [List.mem_take_iff_getElem]
  exact ⟨j, by omega, rfl⟩

theorem not_mem_step {l : List PeerV} {a : Int} {j : Nat} (hj : j < l.length) (h : a ∉ (l.take j).map PeerV.addr) (hne : ¬ l[j].addr = a) : a ∉ (l.take (j + 1)).map PeerV.addr := by
  rw [take_map_succ _ hj]
  intro hm
  rcases List.mem_append.1 hm with hm | hm
  · exact h hm
  · exact hne (List.mem_singleton.1 hm).symm

/-- Does the i-th peer not stand ahead of a place? -/
def pO (l : List PeerV) (x : Plc) (i : Nat) : Bool := match l[i]? with
  | some p => decide (¬ LessP p.id x)
  | none => true
theorem pO_at {l : List PeerV} {x : Plc} {i : Nat} (h : i < l.length) : pO l x i = decide (¬ LessP l[i].id x) := by
  unfold pO; rw [List.getElem?_eq_getElem h]

theorem pO_mono {l : List PeerV} {x : Plc} (h : CircOk l) (i j : Nat) (hij : i ≤ j) (hj : j < l.length) (hp : pO l x i = true) : pO l x j = true := by
  rw [pO_at (by omega)] at hp ⊢
  simp only [decide_eq_true_eq] at hp ⊢
  rcases Nat.lt_or_ge i j with h1 | h1
  · have := (List.pairwise_iff_getElem.1 h.2.2) i j (by omega) hj h1
    unfold LessP at *
    omega
  · obtain rfl : i = j := by omega
    exact hp

/-- The owner of a place: the first peer that does not stand ahead of it, or the first one of all. -/
def ownerI (l : List PeerV) (x : Plc) : Nat := firstP (pO l x) l.length % l.length
theorem ownerI_lt {l : List PeerV} {x : Plc} (h : 0 < l.length) : ownerI l x < l.length := Nat.mod_lt _ h
theorem ownerI_at {l : List PeerV} {x : Plc} {k : Nat} (hk : k < l.length) (h1 : ∀ j, j < k → pO l x j = false) (h2 : pO l x k = true) : ownerI l x = k := by
  unfold ownerI
  rw [firstP_at (by omega) h1 (fun _ => h2), Nat.mod_eq_of_lt hk]
theorem ownerI_none {l : List PeerV} {x : Plc} (h1 : ∀ j, j < l.length → pO l x j = false) : ownerI l x = 0 := by
  unfold ownerI
  rw [firstP_at (Nat.le_refl _) h1 (fun h => by omega), Nat.mod_self]

def ofII (r : Int × Int) : Value := .tuple #[.int .i64 r.1, .int .i64 r.2]
def ownerR (l : List PeerV) (x : Plc) : Int × Int := if IsCircle l then ((ownerI l x : Nat), 0) else (0, 1)
end Go.Esp
