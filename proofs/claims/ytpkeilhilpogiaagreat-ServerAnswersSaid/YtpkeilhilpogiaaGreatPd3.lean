/-
  Texts of this claim, one behind the other: StoreM, T9, SortL, SortG, T10, T11, T12, T13, T14, T15, StoreL, ParcM, Rules11, V1, V2, V3, ServM, V4, V5, V6, WholeL, HealL, V7, HealM.
-/
import Derived.Test.YtpkeilhilpogiaaGreatPd2
import Derived.Shelf.SlSortCmp.WholeK
import Derived.Shelf.SlGeneric
import Derived.Ground.SlsfProg
import Derived.Test.YtpkeilhilpogiaaGreatRows
/-
  Stores: rows of cells by keys, in plain Lean.
-/
set_option linter.unusedSimpArgs false
set_option linter.unusedVariables false
set_option linter.unnecessarySimpa false
namespace Go.Esp
structure Hd where
  key : Plc
  cell : Cel
  deriving DecidableEq
def HeldV.pl (h : HeldV) : Hd := ⟨h.key, h.cell.pl⟩
def pls (l : List HeldV) : List Hd := l.map HeldV.pl
theorem pls_len (l : List HeldV) : (pls l).length = l.length := List.length_map ..
def StOk (s : List Hd) : Prop := (∀ h ∈ s, IsCel h.cell) ∧ s.Pairwise (fun x y => LessP x.key y.key)
instance (s : List Hd) : Decidable (StOk s) := by unfold StOk; exact inferInstance
def IsSt (s : List Hd) : Prop := s.length ≤ 2000 ∧ StOk s
instance (s : List Hd) : Decidable (IsSt s) := by unfold IsSt; exact inferInstance
theorem st_take {s : List Hd} {k : Nat} (hk : k < s.length) : StOk (s.take (k + 1)) ↔ StOk (s.take k) ∧ IsCel s[k].cell ∧ ∀ h : 0 < k, LessP (s[k - 1]'(by omega)).key s[k].key := by
  have e : s.take (k + 1) = s.take k ++ [s[k]] := by rw [List.take_add_one, List.getElem?_eq_getElem hk]; rfl
  rw [e]
  unfold StOk
  simp only [List.mem_append, List.mem_singleton, List.pairwise_append, List.pairwise_singleton]
  constructor
  · rintro ⟨h1, h2, _, h3⟩
    refine ⟨⟨fun m hm => h1 m (.inl hm), h2⟩, h1 _ (.inr rfl), fun h => h3 _ ?_ _ rfl⟩
    rw [List.mem_take_iff_getElem]
    exact ⟨k - 1, by omega, rfl⟩
  · rintro ⟨⟨h1, h2⟩, h3, h4⟩
    refine ⟨fun m hm => ?_, h2, trivial, fun m hm q hq => ?_⟩
    · rcases hm with hm | rfl
      · exact h1 m hm
      · exact h3
    · subst hq
      rw [List.mem_take_iff_getElem] at hm
      obtain ⟨j, hj, rfl⟩ := hm
      have hjk : j < k := by omega
      have hlast := h4 (by omega)
      rcases Nat.lt_or_ge j (k - 1) with h | h
      · have := (List.pairwise_iff_getElem.1 h2) j (k - 1) (by simp; omega) (by simp; omega) h
        simp only [List.getElem_take] at this
        exact Nat.lt_trans this hlast
      · have : j = k - 1 := by omega
        subst this; exact hlast
theorem st_pre {s : List Hd} (h : StOk s) (k : Nat) : StOk (s.take k) := ⟨fun m hm => h.1 m (List.mem_of_mem_take hm), h.2.sublist (List.take_sublist k s)⟩
theorem less_irr {a : Plc} : ¬ LessP a a := Nat.lt_irrefl _
theorem less_tri (a b : Plc) : LessP a b ∨ a = b ∨ LessP b a := by
  rcases Nat.lt_trichotomy a.toNat b.toNat with h | h | h
  · exact .inl h
  · exact .inr (.inl (BitVec.eq_of_toNat_eq h))
  · exact .inr (.inr h)
/-! A key's cell. -/
def findS (s : List Hd) (k : Plc) : Option Cel := (s.find? fun h => decide (h.key = k)).map Hd.cell
theorem findS_nil (k : Plc) : findS [] k = none := rfl
theorem findS_cons (h : Hd) (s : List Hd) (k : Plc) : findS (h :: s) k = if h.key = k then some h.cell else findS s k := by
  unfold findS
  by_cases e : h.key = k
  · simp [e]
  · simp [e]
def findP (s : List Hd) (k : Plc) : Cel × Bool := match findS s k with
  | some c => (c, true)
  | none => (Cel.zero, false)
def findX (l : List HeldV) (k : Plc) : CellV × Bool := match l.find? fun h => decide (h.key = k) with
  | some h => (h.cell, true)
  | none => (CellV.zero, false)
def findXv (r : CellV × Bool) : Value := .tuple #[r.1.enc, .bool r.2]
theorem findX_pl (l : List HeldV) (k : Plc) : ((findX l k).1.pl, (findX l k).2) = findP (pls l) k := by
  unfold findX findP findS pls
  induction l with
  | nil => rfl
  | cons h l ih =>
    by_cases e : h.key = k
    · simp [HeldV.pl, e]
    · simpa [HeldV.pl, e] using ih
theorem findX_mem {l : List HeldV} {k : Plc} (h : (findX l k).2 = true) : ∃ x ∈ l, x.key = k ∧ x.cell = (findX l k).1 := by
  unfold findX at h ⊢
  split at h
  · rename_i x hx
    exact ⟨x, List.mem_of_find?_eq_some hx, by have := List.find?_some hx; simpa using this, rfl⟩
  · cases h
theorem findX_first {l : List HeldV} {c : Plc} {k : Nat} (hk : k < l.length) (h1 : ∀ j (h2 : j < l.length), j < k → ¬ l[j].key = c) (h3 : l[k].key = c) : findX l c = (l[k].cell, true) := by
  unfold findX
  rw [show (l.find? fun h => decide (h.key = c)) = some l[k] from List.find?_eq_some_iff_getElem.2 ⟨by simpa using h3, k, hk, rfl, fun j hj => by simpa using h1 j (by omega) hj⟩]
theorem findX_none {l : List HeldV} {c : Plc} (h : ∀ j (h2 : j < l.length), ¬ l[j].key = c) : findX l c = (CellV.zero, false) := by
  unfold findX
  rw [show (l.find? fun h => decide (h.key = c)) = none from List.find?_eq_none.2 (fun x hx => by
    obtain ⟨j, hj, rfl⟩ := List.getElem_of_mem hx
    simpa using h j hj)]
theorem findX_neg {l : List HeldV} {c : Plc} (h : idxF (fun x : HeldV => decide (x.key = c)) l < 0) : findX l c = (CellV.zero, false) := by
  refine findX_none fun j hj e => ?_
  unfold idxF at h
  rw [if_pos (List.any_eq_true.2 ⟨_, List.getElem_mem hj, by simpa using e⟩)] at h
  omega
theorem findX_at {l : List HeldV} {c : Plc} (h : ¬ idxF (fun x : HeldV => decide (x.key = c)) l < 0) : ∃ i : Nat, idxF (fun x : HeldV => decide (x.key = c)) l = (i : Int) ∧ ∃ hi : i < l.length, findX l c = (l[i].cell, true) := by
  unfold idxF at h ⊢
  split
  · rename_i ha
    refine ⟨_, rfl, List.findIdx_lt_length_of_exists (by simpa using ha), ?_⟩
    have hlt : l.findIdx (fun x : HeldV => decide (x.key = c)) < l.length := List.findIdx_lt_length_of_exists (by simpa using ha)
    refine findX_first hlt (fun j h2 hj => ?_) ?_
    · have := List.not_of_lt_findIdx hj; simpa using this
    · have := List.findIdx_getElem (w := hlt); simpa using this
  · rename_i ha
    rw [if_neg ha] at h; omega
theorem findS_none {s : List Hd} {k : Plc} : findS s k = none ↔ ∀ h ∈ s, h.key ≠ k := by
  unfold findS
  simp [List.find?_eq_none]
theorem findS_some {s : List Hd} {k : Plc} {c : Cel} (h : findS s k = some c) : ⟨k, c⟩ ∈ s := by
  unfold findS at h
  obtain ⟨x, hx, rfl⟩ := Option.map_eq_some_iff.1 h
  have h1 := List.mem_of_find?_eq_some hx
  have h2 : x.key = k := by have := List.find?_some hx; simpa using this
  subst h2; exact h1
theorem keys_nodup {s : List Hd} (h : s.Pairwise (fun x y => LessP x.key y.key)) : (s.map Hd.key).Nodup := by
  rw [List.Nodup, List.pairwise_map]
  exact h.imp fun hl e => by rw [e] at hl; exact less_irr hl
theorem findS_mem {s : List Hd} (hn : (s.map Hd.key).Nodup) {x : Hd} (hx : x ∈ s) : findS s x.key = some x.cell := by
  induction s with
  | nil => cases hx
  | cons h s ih =>
    rw [findS_cons]
    simp only [List.map_cons, List.nodup_cons] at hn
    rcases List.mem_cons.1 hx with rfl | hx
    · rw [if_pos rfl]
    · rw [if_neg (fun e => hn.1 (by rw [e]; exact List.mem_map_of_mem hx))]
      exact ih hn.2 hx
/-! A cell put at a key. -/
def withS : List Hd → Plc → Cel → List Hd
  | [], k, c => [⟨k, c⟩]
  | h :: r, k, c => if LessP h.key k then h :: withS r k c else if h.key = k then ⟨k, c⟩ :: r else ⟨k, c⟩ :: h :: r
theorem withS_mem {s : List Hd} {k : Plc} {c : Cel} : ∀ {x : Hd}, x ∈ withS s k c → x = ⟨k, c⟩ ∨ x ∈ s := by
  induction s with
  | nil => intro x hx; simp [withS] at hx; exact .inl hx
  | cons h s ih =>
    intro x hx
    unfold withS at hx
    split at hx
    · rcases List.mem_cons.1 hx with rfl | hx
      · exact .inr (.head _)
      · rcases ih hx with h1 | h1
        · exact .inl h1
        · exact .inr (.tail _ h1)
    · split at hx
      · rcases List.mem_cons.1 hx with h1 | h1
        · exact .inl h1
        · exact .inr (.tail _ h1)
      · rcases List.mem_cons.1 hx with h1 | h1
        · exact .inl h1
        · exact .inr h1
theorem withS_ok {s : List Hd} (h : StOk s) {k : Plc} {c : Cel} (hc : IsCel c) : StOk (withS s k c) := by
  refine ⟨fun x hx => ?_, ?_⟩
  · rcases withS_mem hx with rfl | hx
    · exact hc
    · exact h.1 x hx
  · have hp := h.2
    clear h
    induction s with
    | nil => exact List.pairwise_singleton _ _
    | cons h s ih =>
      have h1 := List.pairwise_cons.1 hp
      unfold withS
      split
      · rename_i hl
        refine List.pairwise_cons.2 ⟨fun x hx => ?_, ih h1.2⟩
        rcases withS_mem hx with rfl | hx
        · exact hl
        · exact h1.1 x hx
      · rename_i hl
        split
        · rename_i he
          exact List.pairwise_cons.2 ⟨fun x hx => by rw [← he]; exact h1.1 x hx, h1.2⟩
        · rename_i he
          have hk : LessP k h.key := by
            rcases less_tri h.key k with g | g | g
            · exact absurd g hl
            · exact absurd g he
            · exact g
          refine List.pairwise_cons.2 ⟨fun x hx => ?_, hp⟩
          rcases List.mem_cons.1 hx with rfl | hx
          · exact hk
          · exact Nat.lt_trans hk (h1.1 x hx)
theorem findS_with {s : List Hd} (hs : s.Pairwise (fun x y => LessP x.key y.key)) (k : Plc) (c : Cel) (q : Plc) : findS (withS s k c) q = if q = k then some c else findS s q := by
  induction s with
  | nil =>
    unfold withS
    rw [findS_cons, findS_nil]
    by_cases e : q = k
    · subst e; simp
    · rw [if_neg (fun h => e h.symm), if_neg e]
  | cons h s ih =>
    have h1 := List.pairwise_cons.1 hs
    unfold withS
    split
    · rename_i hl
      rw [findS_cons, findS_cons, ih h1.2]
      by_cases e : h.key = q
      · rw [if_pos e, if_pos e, if_neg (fun e2 => by rw [e, e2] at hl; exact less_irr hl)]
      · rw [if_neg e, if_neg e]
    · rename_i hl
      split
      · rename_i he
        rw [findS_cons, findS_cons]
        by_cases e : q = k
        · subst e; simp
        · rw [if_neg (fun h => e h.symm), if_neg e, if_neg (fun h2 => e (by rw [← h2, he]))]
      · rename_i he
        rw [findS_cons]
        by_cases e : q = k
        · subst e; simp
        · rw [if_neg (fun h => e h.symm), if_neg e]
theorem withS_end {s : List Hd} {k : Plc} {c : Cel} (h : ∀ x ∈ s, LessP x.key k) : withS s k c = s ++ [⟨k, c⟩] := by
  induction s with
  | nil => rfl
  | cons x s ih =>
    unfold withS
    rw [if_pos (h x (.head _)), ih (fun y hy => h y (.tail _ hy))]
    rfl
/-! Stores blended. -/
def blendS (two : Cel → Cel → Cel) (s : List Hd) (h : Hd) : List Hd := withS s h.key (match findS s h.key with
  | some c => two c h.cell
  | none => h.cell)
def lastT (a b : Cel) : Cel := b
def mergedT (a b : Cel) : Cel := (mergeR a b).1
theorem mergedT_ok {a b : Cel} (ha : IsCel a) (hb : IsCel b) : IsCel (mergedT a b) := by
  unfold mergedT mergeR
  rw [if_pos ⟨ha, hb⟩]
  exact mergeC_ok ha hb
/-- What keeps cells right. -/
def Keeps2 (two : Cel → Cel → Cel) : Prop := ∀ a b, IsCel a → IsCel b → IsCel (two a b)
theorem lastT_keeps : Keeps2 lastT := fun _ _ _ hb => hb
theorem blendS_ok {two : Cel → Cel → Cel} (ht : Keeps2 two) {s : List Hd} (h : StOk s) {x : Hd} (hx : IsCel x.cell) : StOk (blendS two s x) := by
  refine withS_ok h ?_
  split
  · rename_i c hc; exact ht _ _ (h.1 _ (findS_some hc)) hx
  · exact hx
theorem foldB_ok {two : Cel → Cel → Cel} (ht : Keeps2 two) : ∀ {l s : List Hd}, StOk s → (∀ x ∈ l, IsCel x.cell) → StOk (l.foldl (blendS two) s)
  | [], s, h, _ => h
  | x :: l, s, h, hl => by
    rw [List.foldl_cons]
    exact foldB_ok ht (blendS_ok ht h (hl x (.head _))) fun y hy => hl y (.tail _ hy)
theorem foldB_step {two : Cel → Cel → Cel} {l s : List Hd} {k : Nat} (hk : k < l.length) : (l.take (k + 1)).foldl (blendS two) s = blendS two ((l.take k).foldl (blendS two) s) l[k] := by
  rw [List.take_add_one, List.getElem?_eq_getElem hk, List.foldl_append]; rfl
/-- A right store, blended into none, stays. -/
theorem foldB_self {two : Cel → Cel → Cel} : ∀ {l s : List Hd}, (s ++ l).Pairwise (fun x y => LessP x.key y.key) → l.foldl (blendS two) s = s ++ l
  | [], s, _ => by simp
  | x :: l, s, h => by
    have h1 := List.pairwise_append.1 h
    have hx : ∀ y ∈ s, LessP y.key x.key := fun y hy => h1.2.2 y hy x (.head _)
    have hb : blendS two s x = s ++ [x] := by
      unfold blendS
      rw [withS_end hx, (findS_none).2 (fun y hy e => by have := hx y hy; rw [e] at this; exact less_irr this)]
    rw [List.foldl_cons, hb, foldB_self (by simpa using h)]
    simp
theorem foldB_nil {two : Cel → Cel → Cel} {l : List Hd} (h : StOk l) : l.foldl (blendS two) [] = l := by
  rw [foldB_self (by simpa using h.2)]; rfl
def putR (s : List Hd) (k : Plc) (c : Cel) : List Hd × Int := if IsSt s ∧ IsCel c then (if 2000 < (withS s k c).length then ([], 12) else (withS s k c, 0)) else ([], 1)
def blendR (s t : List Hd) : List Hd × Int := if IsSt s ∧ IsSt t then (if 2000 < (t.foldl (blendS mergedT) s).length then ([], 12) else (t.foldl (blendS mergedT) s, 0)) else ([], 1)
/-! Two rows that rise, with the same cells, are the same. -/
theorem sorted_eq : ∀ {a b : List Hd}, a.Perm b → a.Pairwise (fun x y => LessP x.key y.key) → b.Pairwise (fun x y => LessP x.key y.key) → a = b
  | [], b, hp, _, _ => (List.nil_perm.1 hp).symm
  | x :: a, [], hp, _, _ => absurd (List.perm_nil.1 hp) (by simp)
  | x :: a, y :: b, hp, ha, hb => by
    have h1 := List.pairwise_cons.1 ha
    have h2 := List.pairwise_cons.1 hb
    have e : x = y := by
      rcases List.mem_cons.1 (hp.mem_iff.1 (.head _)) with e | hx
      · exact e
      · rcases List.mem_cons.1 (hp.mem_iff.2 (.head _)) with e | hy
        · exact e.symm
        · exact absurd (Nat.lt_trans (h2.1 x hx) (h1.1 y hy)) (Nat.lt_irrefl _)
    subst e
    rw [sorted_eq ((List.perm_cons x).1 hp) h1.2 h2.2]
/-! Maps of cells. -/
def mpl (m : PM CellV) : List Hd := m.map fun p => ⟨p.1, p.2.pl⟩
theorem mpl_get {m : PM CellV} {k : Plc} : (pmGet m k).map CellV.pl = findS (mpl m) k := by
  induction m with
  | nil => rfl
  | cons p m ih =>
    obtain ⟨j, v⟩ := p
    show _ = findS (⟨j, v.pl⟩ :: mpl m) k
    rw [findS_cons]
    unfold pmGet
    by_cases e : k = j
    · subst e; simp
    · rw [if_neg e, if_neg (fun h => e h.symm)]; exact ih
theorem findS_perm {a b : List Hd} (hp : a.Perm b) (hn : (a.map Hd.key).Nodup) (k : Plc) : findS a k = findS b k := by
  have hb : (b.map Hd.key).Nodup := (hp.map _).nodup_iff.1 hn
  cases h : findS b k with
  | none => exact findS_none.2 fun x hx => findS_none.1 h x (hp.mem_iff.1 hx)
  | some c => exact findS_mem hn (x := ⟨k, c⟩) (hp.mem_iff.2 (findS_some h))
theorem mpl_put_keys {m : PM CellV} {k : Plc} {c : CellV} (hn : ((mpl m).map Hd.key).Nodup) : ((mpl (pmPut m k c)).map Hd.key).Nodup ∧ ∀ x, x ∈ (mpl (pmPut m k c)).map Hd.key ↔ x = k ∨ x ∈ (mpl m).map Hd.key := by
  induction m with
  | nil => simp [pmPut, mpl]
  | cons p m ih =>
    obtain ⟨j, v⟩ := p
    have hn' : j ∉ (mpl m).map Hd.key ∧ ((mpl m).map Hd.key).Nodup := by simpa [mpl] using hn
    obtain ⟨g1, g2⟩ := ih hn'.2
    unfold pmPut
    by_cases e : k = j
    · subst e
      rw [if_pos rfl]
      exact ⟨by simpa [mpl] using hn, fun x => by simp [mpl]⟩
    · rw [if_neg e]
      refine ⟨?_, fun x => ?_⟩
      · show (j :: (mpl (pmPut m k c)).map Hd.key).Nodup
        rw [List.nodup_cons]
        exact ⟨fun h => by rcases (g2 j).1 h with h | h; exact e h.symm; exact hn'.1 h, g1⟩
      · show x ∈ j :: (mpl (pmPut m k c)).map Hd.key ↔ x = k ∨ x ∈ j :: (mpl m).map Hd.key
        rw [List.mem_cons, List.mem_cons, g2 x]
        constructor
        · rintro (h | h | h)
          · exact .inr (.inl h)
          · exact .inl h
          · exact .inr (.inr h)
        · rintro (h | h | h)
          · exact .inr (.inl h)
          · exact .inl h
          · exact .inr (.inr h)
theorem mpl_find_put {m : PM CellV} {k q : Plc} {c : CellV} : findS (mpl (pmPut m k c)) q = if q = k then some c.pl else findS (mpl m) q := by
  induction m with
  | nil =>
    show findS [⟨k, c.pl⟩] q = _
    rw [findS_cons]
    by_cases e : q = k
    · subst e; simp
    · rw [if_neg (fun h => e h.symm), if_neg e]; rfl
  | cons p m ih =>
    obtain ⟨j, v⟩ := p
    unfold pmPut
    by_cases e : k = j
    · subst e
      rw [if_pos rfl]
      show findS (⟨k, c.pl⟩ :: mpl m) q = if q = k then _ else findS (⟨k, v.pl⟩ :: mpl m) q
      rw [findS_cons, findS_cons]
      by_cases e2 : q = k
      · subst e2; simp
      · rw [if_neg (fun h => e2 h.symm), if_neg e2, if_neg (fun h => e2 h.symm)]
    · rw [if_neg e]
      show findS (⟨j, v.pl⟩ :: mpl (pmPut m k c)) q = if q = k then _ else findS (⟨j, v.pl⟩ :: mpl m) q
      rw [findS_cons, findS_cons, ih]
      by_cases e2 : j = q
      · rw [if_pos e2, if_pos e2, if_neg (fun h => e (by rw [← h, e2]))]
      · rw [if_neg e2, if_neg e2]
/-- Rows with the same cells at all keys hold the same. -/
theorem perm_of_find {a b : List Hd} (ha : (a.map Hd.key).Nodup) (hb : (b.map Hd.key).Nodup) (h : ∀ q, findS a q = findS b q) : a.Perm b := by
  have na : a.Nodup := (List.pairwise_map.1 ha).imp fun hne e => hne (by rw [e])
  have nb : b.Nodup := (List.pairwise_map.1 hb).imp fun hne e => hne (by rw [e])
  refine (List.perm_ext_iff_of_nodup na nb).2 fun x => ?_
  constructor
  · intro hx
    have h1 := findS_mem ha hx
    rw [h] at h1
    exact findS_some h1
  · intro hx
    have h1 := findS_mem hb hx
    rw [← h] at h1
    exact findS_some h1
theorem mpl_put {m : PM CellV} {s : List Hd} (hs : s.Pairwise (fun x y => LessP x.key y.key)) (hp : (mpl m).Perm s) {k : Plc} {c : CellV} (hc : StOk (withS s k c.pl)) : (mpl (pmPut m k c)).Perm (withS s k c.pl) := by
  have hn : ((mpl m).map Hd.key).Nodup := (hp.map _).nodup_iff.2 (keys_nodup hs)
  refine perm_of_find (mpl_put_keys hn).1 (keys_nodup hc.2) fun q => ?_
  rw [mpl_find_put, findS_with hs, findS_perm hp hn]
/-- The order of a row. -/
def lessH (a b : HeldV) : Int := if LessP a.key b.key then -1 else 1
def ofS (two : Cel → Cel → Cel) (all : List (List Hd)) : List Hd := all.flatten.foldl (blendS two) []
theorem ofS_step {two : Cel → Cel → Cel} {all : List (List Hd)} {k : Nat} (hk : k < all.length) : ofS two (all.take (k + 1)) = all[k].foldl (blendS two) (ofS two (all.take k)) := by
  unfold ofS
  rw [List.take_add_one, List.getElem?_eq_getElem hk, List.flatten_append, List.foldl_append]
  simp
theorem ofS_ok {two : Cel → Cel → Cel} (ht : Keeps2 two) {all : List (List Hd)} (h : ∀ s ∈ all, ∀ x ∈ s, IsCel x.cell) : StOk (ofS two all) := by
  refine foldB_ok ht ⟨fun x hx => (by cases hx), .nil⟩ fun x hx => ?_
  obtain ⟨s, hs, hxs⟩ := List.mem_flatten.1 hx
  exact h s hs x hxs
/-- A function that blends two cells. -/
def TwoOk (P : Program) (g : FuncId) (two : Cel → Cel → Cel) : Prop := ∀ (M : Mem) (a b : CellV), CellV.ok M a → CellV.ok M b → Fn P g [a.enc, b.enc] M (fun M' v => ∃ c : CellV, v = c.enc ∧ c.pl = two a.pl b.pl ∧ CellV.ok M' c)
/-- What a map becomes by one more cell. -/
theorem blend_map {two : Cel → Cel → Cel} (ht : Keeps2 two) {m : PM CellV} {s : List Hd} {k : Plc} {c c' : CellV} (hs : StOk s) (hp : (mpl m).Perm s) (hc : IsCel c.pl) (he : c'.pl = match findS (mpl m) k with | some x => two x c.pl | none => c.pl) : (mpl (pmPut m k c')).Perm (blendS two s ⟨k, c.pl⟩) := by
  have hn : ((mpl m).map Hd.key).Nodup := (hp.map _).nodup_iff.2 (keys_nodup hs.2)
  rw [findS_perm hp hn] at he
  have hb := blendS_ok ht hs (x := ⟨k, c.pl⟩) hc
  unfold blendS at hb ⊢
  simp only at hb ⊢
  have hb' : StOk (withS s k c'.pl) := by rw [he]; exact hb
  have := mpl_put hs.2 hp (c := c') hb'
  rw [he] at this
  exact this
theorem put_mem {α : Type} {m : PM α} {k : Plc} {c : α} {p : Plc × α} (h : p ∈ pmPut m k c) : p = (k, c) ∨ p ∈ m := by
  induction m with
  | nil => simp [pmPut] at h; exact .inl h
  | cons q m ih =>
    obtain ⟨j, v⟩ := q
    unfold pmPut at h
    split at h
    · rename_i e; subst e
      rcases List.mem_cons.1 h with h1 | h1
      · exact .inl h1
      · exact .inr (.tail _ h1)
    · rcases List.mem_cons.1 h with h1 | h1
      · exact .inr (h1 ▸ .head _)
      · rcases ih h1 with h2 | h2
        · exact .inl h2
        · exact .inr (.tail _ h2)
def mkH (p : Plc × CellV) : HeldV := ⟨p.1, p.2⟩
theorem mkH_pl (l : PM CellV) : pls (l.map mkH) = mpl l := by unfold pls mpl; rw [List.map_map]; rfl
theorem row_sorted {l : List HeldV} {S : List Hd} (h : l.Pairwise (fun x y => ¬ lessH y x < 0)) (hp : (pls l).Perm S) (hS : S.Pairwise (fun x y => LessP x.key y.key)) : pls l = S := by
  refine sorted_eq hp ?_ hS
  have hn : ((pls l).map Hd.key).Nodup := (hp.map _).nodup_iff.2 (keys_nodup hS)
  rw [List.pairwise_iff_getElem]
  intro i j hi hj hij
  have hi' : i < l.length := by rw [pls_len] at hi; exact hi
  have hj' : j < l.length := by rw [pls_len] at hj; exact hj
  have h1 := (List.pairwise_iff_getElem.1 h) i j hi' hj' hij
  have h2 := (List.pairwise_iff_getElem.1 hn) i j (by simpa using hi) (by simpa using hj) hij
  simp only [List.getElem_map] at h2
  have e1 : (pls l)[i] = HeldV.pl l[i] := by simp [pls]
  have e2 : (pls l)[j] = HeldV.pl l[j] := by simp [pls]
  rw [e1, e2] at h2 ⊢
  rcases less_tri (HeldV.pl l[i]).key (HeldV.pl l[j]).key with h3 | h3 | h3
  · exact h3
  · exact absurd h3 h2
  · exfalso
    apply h1
    unfold lessH
    rw [if_pos (show LessP l[j].key l[i].key from h3)]
    decide
def fullR (S : List Hd) : List Hd × Int := if 2000 < S.length then ([], 12) else (S, 0)
/-- A store handed back, and an error. -/
def StE (M : Mem) (v : Value) (r : List Hd × Int) : Prop := ∃ s : Sl HeldV, v = .tuple #[s.val, .int .i64 r.2] ∧ pls s.l = r.1 ∧ SlK M HeldV.segs 24 s ∧ ∀ h ∈ s.l, HeldV.ok M h
theorem StE.nil {M : Mem} {e : Int} : StE M (.tuple #[.slice none 0 0, .int .i64 e]) ([], e) := ⟨⟨none, 0, []⟩, rfl, rfl, SlK.nil, fun h hh => by cases hh⟩
theorem put_of {s : List Hd} (h : StOk s) (k : Plc) (c : Cel) : ofS lastT [s, [⟨k, c⟩]] = withS s k c := by
  unfold ofS
  simp only [List.flatten_cons, List.flatten_nil, List.append_nil, List.foldl_append]
  rw [foldB_nil h]
  show blendS lastT s ⟨k, c⟩ = _
  unfold blendS lastT
  cases findS s k <;> rfl
theorem putR_yes {s : List Hd} {k : Plc} {c : Cel} (h : IsSt s) (hc : IsCel c) : putR s k c = fullR (ofS lastT [s, [⟨k, c⟩]]) := by
  rw [put_of h.2]; exact if_pos ⟨h, hc⟩
theorem findX_S {l : List HeldV} {k : Plc} {x : CellV} {b : Bool} (h : findX l k = (x, b)) : findS (pls l) k = if b then some x.pl else none := by
  have h1 := findX_pl l k
  rw [h] at h1
  unfold findP at h1
  cases h2 : findS (pls l) k with
  | none => rw [h2] at h1; simp only [Prod.mk.injEq] at h1; rw [h1.2]; rfl
  | some c => rw [h2] at h1; simp only [Prod.mk.injEq] at h1; rw [h1.2, h1.1]; rfl
end Go.Esp
/-
  What a store is; the cell of a key.
-/
set_option linter.unusedSimpArgs false
set_option linter.unusedVariables false
set_option linter.unnecessarySimpa false
set_option maxRecDepth 8000
set_option maxHeartbeats 1000000
namespace Go.Proofs.YtpkeilhilpogiaaGreat
open Go.Esp
theorem F.elem23 : slOf Tryz.prog 23 = some (60, 24, 80) := by kernel_rfl
theorem F.foff60_0 : foff Tryz.prog 60 0 = some 0 := by kernel_rfl
theorem F.foff60_1 : foff Tryz.prog 60 1 = some 20 := by kernel_rfl
theorem F.guard29 : Tryz.prog.eqGuardType Tryz.prog.depth 29 = false := by kernel_rfl
theorem F.kinds29 : kindsOf Tryz.prog 20 29 = some [.i .u8, .i .u8, .i .u8, .i .u8, .i .u8, .i .u8, .i .u8, .i .u8, .i .u8, .i .u8, .i .u8, .i .u8, .i .u8, .i .u8, .i .u8, .i .u8, .i .u8, .i .u8, .i .u8, .i .u8] := by kernel_rfl
theorem F.lay60 : lay Tryz.prog 60 = some (true, 24) := by kernel_rfl
theorem F.ok48 : okFn Tryz.prog 48 = true := by kernel_rfl
theorem F.ok49 : okFn Tryz.prog 49 = true := by kernel_rfl
theorem F.zero60 : zeroOf Tryz.prog 60 = some (aggV [idSeg 0, .one (.int .u64 0), .one (.bool false), .one (.string ⟨#[]⟩), .one (.slice none 0 0)]) := by rw [idSeg0]; kernel_rfl

theorem IndexFH_rd (M : Mem) (Hin : Hp) (l : Sl HeldV) (g : FuncId) (caps : List Value) (p : HeldV → Bool) (hl : RdS M Hin l.a (l.l.map HeldV.segs) 24) (bl : l.l.length ≤ 9223372036854775807) (hok : okFn Tryz.prog g = true) (hc : ∀ x ∈ l.l, Fo Tryz.prog g ([x.enc] ++ caps) M Hin (fun M' v => M' = M ∧ v = .bool (p x))) : Fo Tryz.prog 48 [l.val, .func (.func g) #[] caps.toArray] M Hin (fun M' v => M' = M ∧ v = .int .i64 (idxF p l.l)) := by
  have nl : (l.l.map HeldV.segs).length = l.l.length := List.length_map ..
  refine fo_enter Tryz.func48 rfl Tryz.ntmps48 rfl ?_; intro H
  have hrd := hl.app H
  refine C_seq ?_
  refine C_region (l := [0]) rfl ?_
  refine Y_assign ?_
  refine XD_end ?_
  refine K_then ?_
  iterate 2 refine C_seq ?_
  refine C_region (l := [0, 1, 2]) rfl ?_
  refine Y_move ?_
  refine Y_len_sl F.elem23 ?_
  refine Y_move ?_
  refine XD_end ?_
  refine K_then ?_
  refine Y_pk [8, 7, 4, 0, 1] ?_
  refine C_block ?_
  refine Y_pk [8, 7, 4, 0, 1] ?_
  refine C_loopS (.succ .zero) (fun (k : Nat) z => z = [(8, .int .i64 (k : Int))] ∧ k ≤ l.l.length ∧ (∀ j (h : j < k) (h2 : j < l.l.length), p l.l[j] = false)) (fun k => l.l.length - k) (0) (⟨rfl, by omega, by (intro j hj; omega)⟩) ?_
  rintro k _ ⟨rfl, hk, hI⟩
  refine C_seq ?_
  refine C_region (l := [0]) rfl ?_
  refine Y_cmp ?_
  refine XD_end ?_
  refine K_then ?_
  refine C_seq ?_
  refine C_cond rfl (fun hc1 => ?_) (fun hc1 => ?_)
  ·skip
   replace hc1 := dT hc1
   refine C_skip ?_
   refine K_then ?_
   refine C_seq ?_
   refine C_block ?_
   refine C_seq ?_
   refine C_region (l := [0, 1]) rfl ?_
   refine Y_move ?_
   refine Y_assign ?_
   refine XD_end ?_
   refine K_then ?_
   refine C_seq ?_
   refine C_region (l := [0, 1, 2, 3, 4, 5]) rfl ?_
   iterate 3 refine Y_move ?_
   refine X_indexAddr rfl rfl rfl rfl F.elem23 (by rfl) (by omega) (by exact RdS.plain (by assumption) (by (simp; omega))) rfl ?_
   refine X_load_rd rfl rfl rfl (by assumption) (by exact row_map (by omega)) F.lay60 rfl rfl rfl ?_
   refine X_foV rfl rfl rfl hok rfl rfl (hc _ (List.getElem_mem (n := k) (by omega))) (Rem.here _) (putE_some rfl) ?_
   rintro _ M1 _ ⟨hM1, rfl⟩; subst M1
   refine XD_end ?_
   refine K_then ?_
   refine C_cond rfl (fun hc2 => ?_) (fun hc2 => ?_)
   ·skip
    have hP := hc2
    refine C_seq ?_
    refine C_region (l := [0, 1]) rfl ?_
    refine Y_move ?_
    refine Y_assign ?_
    refine XD_end ?_
    refine K_then ?_
    refine C_ret ?_
    refine K_retB ?_
    iterate 2 refine K_ret ?_
    refine K_retB ?_
    refine K_ret ?_
    refine K_end (.inr rfl) (.tmp rfl .nil) (fun w hw => ?_)
    refine ⟨_, M, rfl, Mem.le.refl M, hw.c, rfl, ?_⟩
    refine congrArg (Value.int .i64) ?_
    exact (idxF_at (by omega) (fun j hj => hI j hj _) hP).symm
   ·skip
    have hP := hc2
    refine C_skip ?_
    refine K_out ?_
    refine K_then ?_
    refine C_region (l := [0, 1]) rfl ?_
    refine X_ari rfl rfl rfl rfl rfl (by exact wrap_in (by decide) (by omega)) rfl ?_
    refine Y_move ?_
    refine XD_end ?_
    refine K_roundS (a' := [(8, _)]) (k + 1) (.cons (k := 8) rfl (.cons (k := 7) rfl (.cons (k := 4) rfl (.cons (k := 0) rfl (.cons (k := 1) rfl (.nil)))))) (fun w hw => by first | exact hw | exact hw.c) ?_ ?_
    ·refine ⟨rfl, by omega, ?_⟩
     (intro j hj hj2; rcases Nat.lt_or_ge j k with h9 | h9; exact hI j h9 hj2; obtain rfl : j = k := (by omega); simp_all)
    ·omega
  ·skip
   replace hc1 := dF hc1
   refine C_exit ?_
   iterate 2 refine K_exit ?_
   refine K_hit ?_
   refine K_then ?_
   refine Y_pk [4] ?_
   refine C_seq ?_
   refine C_region (l := [0]) rfl ?_
   refine Y_assign ?_
   refine XD_end ?_
   refine K_then ?_
   refine C_ret ?_
   refine K_end (.inr rfl) (.tmp rfl .nil) (fun w hw => ?_)
   refine ⟨_, M, rfl, Mem.le.refl M, hw.c, rfl, ?_⟩
   refine congrArg (Value.int .i64) ?_
   exact (idxF_none (fun j hj => hI j (by omega) hj)).symm

theorem findc_ok (M : Mem) (b : Nat) (key : Plc) (x : HeldV) : Fo Tryz.prog 49 ([x.enc] ++ [.pointer (some ⟨b, 0, none⟩)]) M [(b, rowO [idSeg key] 29)] (fun M' v => M' = M ∧ v = .bool (decide (x.key = key))) := by
  obtain ⟨x_key, ⟨x_version, x_has, x_val, ⟨x_a, x_c, x_l⟩⟩⟩ := x
  refine fo_enter Tryz.func49 rfl Tryz.ntmps49 rfl ?_; intro H
  refine C_seq ?_
  refine C_region (l := [0, 1]) rfl ?_
  refine Y_box ?_; intro b1
  refine Y_assign ?_
  refine XD_end ?_
  refine K_then ?_
  refine Y_pk [3, 2, 1] ?_
  refine C_seq ?_
  refine C_region (l := [0, 1, 2, 3, 4]) rfl ?_
  refine Y_fieldAddr F.foff60_0 ?_
  iterate 2 refine Y_load F.lay29 ?_
  refine X_same (m := 20) rfl rfl rfl rfl rfl (by constructor) (by constructor) F.lay29 F.kinds29 rfl F.guard29 (fit_id fit_nil) (fit_id fit_nil) rfl rfl rfl ?_; intro c2 he3
  replace he3 : c2 = true ↔ Segs.cells _ = Segs.cells _ := he3
  obtain rfl := eqD he3 (cells_id1 (x := _) (y := _)); clear he3
  refine Y_assign ?_
  refine XD_end ?_
  refine K_then ?_
  refine Y_pk [3] ?_
  refine C_ret ?_
  refine K_end (.inr rfl) (.tmp rfl .nil) (fun w hw => ?_)
  refine ⟨_, M, rfl, Mem.le.refl M, hw.c, rfl, ?_⟩
  clear hw
  rfl

theorem Find_ok (M : Mem) (s : (Sl HeldV)) (key : Plc) (hs0 : SlK M HeldV.segs 24 s) (hs1 : ∀ y ∈ (s).l, HeldV.ok M y) : Fs Tryz.prog 19 [Sl.val s, aggV [idSeg key]] M (fun v => v =  (findXv (findX s.l key))) := by
  obtain ⟨s_a, s_c, s_l⟩ := s
  have k_s : SlK M HeldV.segs 24 ⟨s_a, s_c, s_l⟩ := hs0
  have s_s : SlM M s_a (s_l.map HeldV.segs) 24 := k_s.h1
  have n_s : (s_l.map HeldV.segs).length = s_l.length := List.length_map ..
  have m_s : s_l.length ≤ 9223372036854775807 := k_s.h2
  have c_s : s_l.length ≤ s_c := k_s.h3
  have l_s : ∀ y ∈ s_l, HeldV.ok M y := hs1
  refine fs_enter Tryz.func19 rfl Tryz.ntmps19 rfl ?_; intro H
  refine C_seq ?_
  refine C_region (l := [0, 1, 2]) rfl ?_
  refine Y_box ?_; intro b1
  refine Y_alloc F.zero37 ?_; intro b2
  refine Y_assign ?_
  refine XD_end ?_
  refine K_then ?_
  refine Y_pk [5, 4, 3, 0] ?_
  refine C_seq ?_
  refine C_region (l := [0, 1, 2, 3]) rfl ?_
  refine Y_move ?_
  refine X_makeFunc rfl rfl rfl rfl rfl ?_
  refine X_fo rfl rfl F.ok48 rfl (IndexFH_rd _ [(b1, _)] ⟨_, _, _⟩ 49 [_] (fun x => decide (x.key = key)) (s_s.rd _) m_s F.ok49 (fun x hx => findc_ok M _ key x)) (by repeat first | exact Rem.here _ | exact Rem.two | apply Rem.skip | apply Rem.over) (putE_some rfl) ?_
  rintro _ M1 _ ⟨hM1, rfl⟩; subst M1
  refine Y_assign ?_
  refine XD_end ?_
  refine K_then ?_
  refine Y_pk [6, 5, 4, 0] ?_
  iterate 2 refine C_seq ?_
  refine C_region (l := [0, 1]) rfl ?_
  refine Y_move ?_
  refine Y_cmp ?_
  refine XD_end ?_
  refine K_then ?_
  refine Y_pk [11, 6, 5, 4, 0] ?_
  refine C_cond rfl (fun hc3 => ?_) (fun hc3 => ?_)
  ·replace hc3 := dT hc3
   simp only [AnswerV.eta, MarkV.eta, CellV.eta, HeldV.eta, WaitV.eta, ServerV.eta, PeerV.eta, OpV.eta, ParcelV.eta, PostV.eta, WorkerV.eta] at hc3
   refine C_seq ?_
   refine C_region (l := [0, 1, 2]) rfl ?_
   refine X_build rfl rfl F.bld37 (.nil) rfl rfl ?_
   refine Y_store F.lay37 ?_
   refine Y_assign ?_
   refine XD_end ?_
   refine K_then ?_
   refine Y_pk [5, 6, 4, 0] ?_
   refine C_ret ?_
   refine K_ret ?_
   refine K_end (.inr rfl) (.cell rfl (by repeat first | exact List.Mem.head _ | refine List.Mem.tail _ ?_ | refine List.mem_append_right _ ?_) F.lay37 rfl rfl (.tmp rfl .nil)) (fun w hw => ?_)
   refine ⟨_, rfl, (hw.c), ?_⟩
   clear hw
   rw [findX_neg (by assumption)]
   rfl
  ·replace hc3 := dF hc3
   simp only [AnswerV.eta, MarkV.eta, CellV.eta, HeldV.eta, WaitV.eta, ServerV.eta, PeerV.eta, OpV.eta, ParcelV.eta, PostV.eta, WorkerV.eta] at hc3
   refine C_skip ?_
   refine K_then ?_
   refine Y_pk [6, 5, 4, 0] ?_
   refine C_seq ?_
   obtain ⟨i9, hi9, hil, hfx⟩ := findX_at (by assumption)
   rw [hi9]
   refine C_region (l := [0, 1, 2, 3, 4, 5, 6]) rfl ?_
   iterate 2 refine Y_move ?_
   refine X_indexAddr rfl rfl rfl rfl F.elem23 (by rfl) (by omega) (by exact SlM.plain (by assumption) (by (simp; omega))) rfl ?_
   refine X_fieldAddr_el rfl rfl rfl (by exact SlM.plain (by assumption) (by (simp; omega))) F.foff60_1 rfl ?_
   refine X_load_el rfl rfl rfl (by assumption) (by exact row_map (by omega)) F.lay37 rfl rfl rfl ?_
   refine Y_store F.lay37 ?_
   refine Y_assign ?_
   refine XD_end ?_
   refine K_then ?_
   refine Y_pk [5, 4] ?_
   refine C_ret ?_
   refine K_end (.inr rfl) (.cell rfl (by repeat first | exact List.Mem.head _ | refine List.Mem.tail _ ?_ | refine List.mem_append_right _ ?_) F.lay37 rfl rfl (.tmp rfl .nil)) (fun w hw => ?_)
   refine ⟨_, rfl, (hw.c), ?_⟩
   clear hw
   rw [hfx]
   rfl

theorem StIs_ok (M : Mem) (s : (Sl HeldV)) (hs0 : SlK M HeldV.segs 24 s) (hs1 : ∀ y ∈ (s).l, HeldV.ok M y) : Fs Tryz.prog 38 [Sl.val s] M (fun v => v = Value.bool (decide (IsSt (pls s.l)))) := by
  obtain ⟨s_a, s_c, s_l⟩ := s
  have k_s : SlK M HeldV.segs 24 ⟨s_a, s_c, s_l⟩ := hs0
  have s_s : SlM M s_a (s_l.map HeldV.segs) 24 := k_s.h1
  have n_s : (s_l.map HeldV.segs).length = s_l.length := List.length_map ..
  have m_s : s_l.length ≤ 9223372036854775807 := k_s.h2
  have c_s : s_l.length ≤ s_c := k_s.h3
  have l_s : ∀ y ∈ s_l, HeldV.ok M y := hs1
  refine fs_enter Tryz.func38 rfl Tryz.ntmps38 rfl ?_; intro H
  refine C_seq ?_
  refine C_region (l := [0]) rfl ?_
  refine Y_assign ?_
  refine XD_end ?_
  refine K_then ?_
  iterate 2 refine C_seq ?_
  refine C_region (l := [0, 1, 2]) rfl ?_
  refine Y_move ?_
  refine Y_len_sl F.elem23 ?_
  refine Y_move ?_
  refine XD_end ?_
  refine K_then ?_
  refine C_block ?_
  refine Y_pk [7, 6, 5, 2, 0] ?_
  refine C_loopS (.succ .zero) (fun (k : Nat) z => z = [(7, .int .i64 (k : Int))] ∧ k ≤ s_l.length ∧ (StOk ((pls s_l).take k))) (fun k => s_l.length - k) (0) (⟨rfl, by omega, by (refine ⟨fun m hm => by simp at hm, by simp⟩)⟩) ?_
  rintro k _ ⟨rfl, hk, hI⟩
  refine C_seq ?_
  refine C_region (l := [0]) rfl ?_
  refine Y_cmp ?_
  refine XD_end ?_
  refine K_then ?_
  refine C_seq ?_
  refine C_cond rfl (fun hc1 => ?_) (fun hc1 => ?_)
  ·replace hc1 := dT hc1
   refine C_skip ?_
   refine K_then ?_
   refine C_seq ?_
   refine C_block ?_
   refine C_seq ?_
   refine C_region (l := [0, 1, 2, 3, 4, 5]) rfl ?_
   refine Y_move ?_
   refine X_indexAddr rfl rfl rfl rfl F.elem23 (by rfl) (by omega) (by exact SlM.plain (by assumption) (by (simp; omega))) rfl ?_
   refine X_load_el rfl rfl rfl (by assumption) (by exact row_map (by omega)) F.lay60 rfl rfl rfl ?_
   refine Y_alloc F.zero60 ?_; intro b2
   refine Y_assign ?_
   refine Y_store F.lay60 ?_
   refine XD_end ?_
   refine K_then ?_
   refine C_seq ?_
   have hpk : (pls s_l)[k]'(by rw [pls_len]; omega) = HeldV.pl s_l[k] := by simp [pls]
   have hp9 : ∀ h : 0 < k, (pls s_l)[k - 1]'(by rw [pls_len]; omega) = HeldV.pl s_l[k - 1] := fun h => by simp [pls]
   have e9 : ∀ h0 : 0 < k, s_l[((k : Int) - 1).toNat]'(by omega) = s_l[k - 1]'(by omega) := fun h0 => by congr 1; omega
   refine C_region_any (l := [0, 1, 2, 3, 4, 5, 6, 7, 8, 9, 10, 11, 12, 13, 14, 15, 16, 17, 18, 19]) #[0, 1, 3, 7, 15, 31, 63, 127, 255, 255, 767, 2047, 4095, 8191, 255, 16639, 65535, 131071, 262143, 524287] _ rfl (by kernel_rfl) (by kernel_rfl) St.drawn (fun _ h => h) ?_
   refine Y_fieldAddr F.foff60_1 ?_
   refine Y_load F.lay37 ?_
   refine X_fs rfl rfl F.ok47 rfl (CelIs_ok _ s_l[k].cell (l_s _ (List.getElem_mem (by omega))).h0) rfl ?_
   rintro _ rfl
   refine Y_not ?_
   refine Y_move ?_
   refine XD_part 16 rfl (fun hc3 => ?_) (fun hc3 => ?_)
   ·replace hc3 := nT hc3
    iterate 14 refine Y_skip ?_
    refine Y_pick ?_
    refine XD_end ?_
    refine K_then ?_
    refine C_true rfl ?_
    refine C_seq ?_
    refine C_region (l := [0]) rfl ?_
    refine Y_assign ?_
    refine XD_end ?_
    refine K_then ?_
    refine C_ret ?_
    refine K_retB ?_
    iterate 2 refine K_ret ?_
    refine K_retB ?_
    refine K_ret ?_
    refine K_end (.inr rfl) (.tmp rfl .nil) (fun w hw => ?_)
    refine ⟨_, rfl, (hw.c), ?_⟩
    clear hw
    show _ = Value.bool (decide (IsSt (pls s_l)))
    refine congrArg Value.bool (decide_eq_false (fun h9 => ?_)).symm
    obtain ⟨_, g1, g2⟩ := (st_take (s := pls s_l) (k := k) (by rw [pls_len]; omega)).1 (st_pre h9.2 (k + 1))
    rw [hpk] at g1
    contradiction
   ·replace hc3 := nF hc3
    refine Y_move ?_
    refine Y_cmp ?_
    refine Y_move ?_
    refine XD_part 19 rfl (fun hc4 => ?_) (fun hc4 => ?_)
    ·replace hc4 := dT hc4
     iterate 2 refine Y_move ?_
     refine X_ari rfl rfl rfl rfl rfl (by exact wrap_in (by decide) (by omega)) rfl ?_
     refine X_indexAddr rfl rfl rfl rfl F.elem23 (by exact (Int.toNat_of_nonneg (by omega)).symm) (by omega) (by exact SlM.plain (by assumption) (by (simp; omega))) rfl ?_
     refine X_fieldAddr_el rfl rfl rfl (by exact SlM.plain (by assumption) (by (simp; omega))) F.foff60_0 rfl ?_
     refine X_load_el rfl rfl rfl (by assumption) (by exact row_map (by omega)) F.lay29 rfl rfl rfl ?_
     refine Y_fieldAddr F.foff60_0 ?_
     refine Y_load F.lay29 ?_
     refine X_fs rfl rfl F.ok37 rfl (Less_ok _ _ _) rfl ?_
     rintro _ rfl
     refine Y_not ?_
     iterate 2 refine Y_pick ?_
     refine XD_end ?_
     refine K_then ?_
     refine C_cond rfl (fun hc5 => ?_) (fun hc5 => ?_)
     ·replace hc5 := nT hc5
      simp only [List.get_eq_getElem] at hc5
      refine C_seq ?_
      refine C_region (l := [0]) rfl ?_
      refine Y_assign ?_
      refine XD_end ?_
      refine K_then ?_
      refine C_ret ?_
      refine K_retB ?_
      iterate 2 refine K_ret ?_
      refine K_retB ?_
      refine K_ret ?_
      refine K_end (.inr rfl) (.tmp rfl .nil) (fun w hw => ?_)
      refine ⟨_, rfl, (hw.c), ?_⟩
      clear hw
      show _ = Value.bool (decide (IsSt (pls s_l)))
      refine congrArg Value.bool (decide_eq_false (fun h9 => ?_)).symm
      obtain ⟨_, g1, g2⟩ := (st_take (s := pls s_l) (k := k) (by rw [pls_len]; omega)).1 (st_pre h9.2 (k + 1))
      rw [hpk] at g1
      (have h0 : 0 < k := (by omega); have h7 := g2 h0; have h8 := e9 h0; rw [hpk, hp9 h0] at h7; simp_all [HeldV.pl]; done)
     ·replace hc5 := nF hc5
      simp only [List.get_eq_getElem] at hc5
      refine C_skip ?_
      refine K_out ?_
      refine K_then ?_
      refine C_region (l := [0, 1]) rfl ?_
      refine X_ari rfl rfl rfl rfl rfl (by exact wrap_in (by decide) (by omega)) rfl ?_
      refine Y_move ?_
      refine XD_end ?_
      refine K_roundS (a' := [(7, _)]) (k + 1) (.cons (k := 7) rfl (.cons (k := 6) rfl (.cons (k := 5) rfl (.cons (k := 2) rfl (.cons (k := 0) rfl (.nil)))))) (fun w hw => by first | exact hw | exact hw.c) ?_ ?_
      ·refine ⟨rfl, by omega, ?_⟩
       (rw [st_take (by rw [pls_len]; omega)])
       refine ⟨hI, by rw [hpk]; assumption, fun h0 => ?_⟩
       rw [hpk, hp9 h0]
       (have h8 := e9 h0; simp_all [HeldV.pl]; done)
      ·omega
    ·replace hc4 := dF hc4
     iterate 10 refine Y_skip ?_
     iterate 2 refine Y_pick ?_
     refine XD_end ?_
     refine K_then ?_
     refine C_false rfl ?_
     refine C_skip ?_
     refine K_out ?_
     refine K_then ?_
     refine C_region (l := [0, 1]) rfl ?_
     refine X_ari rfl rfl rfl rfl rfl (by exact wrap_in (by decide) (by omega)) rfl ?_
     refine Y_move ?_
     refine XD_end ?_
     refine K_roundS (a' := [(7, _)]) (k + 1) (.cons (k := 7) rfl (.cons (k := 6) rfl (.cons (k := 5) rfl (.cons (k := 2) rfl (.cons (k := 0) rfl (.nil)))))) (fun w hw => by first | exact hw | exact hw.c) ?_ ?_
     ·refine ⟨rfl, by omega, ?_⟩
      (rw [st_take (by rw [pls_len]; omega)])
      refine ⟨hI, by rw [hpk]; assumption, fun h0 => ?_⟩
      rw [hpk, hp9 h0]
      omega
     ·omega
  ·replace hc1 := dF hc1
   refine C_exit ?_
   iterate 2 refine K_exit ?_
   refine K_hit ?_
   refine K_then ?_
   refine Y_pk [2, 0] ?_
   refine C_seq ?_
   refine C_region (l := [0, 1, 2, 3]) rfl ?_
   refine Y_move ?_
   refine Y_len_sl F.elem23 ?_
   refine Y_cmp ?_
   refine Y_assign ?_
   refine XD_end ?_
   refine K_then ?_
   refine Y_pk [2] ?_
   refine C_ret ?_
   refine K_end (.inr rfl) (.tmp rfl .nil) (fun w hw => ?_)
   refine ⟨_, rfl, (hw.c), ?_⟩
   clear hw
   show _ = Value.bool (decide (IsSt (pls s_l)))
   (have hk9 : k = s_l.length := (by omega); subst hk9; rw [List.take_of_length_le (by rw [pls_len]; omega)] at hI; exact congrArg Value.bool (decide_eq_decide.2 ⟨fun h9 => ⟨by rw [pls_len]; omega, hI⟩, fun h9 => by have := h9.1; rw [pls_len] at this; omega⟩))

theorem rStIs_ok (M : Mem) (s : (Sl HeldV)) (hs0 : SlK M HeldV.segs 24 s) (hs1 : ∀ y ∈ (s).l, HeldV.ok M y) : Fs Tryz.prog 20 [Sl.val s] M (fun v => v = Value.bool (decide (IsSt (pls s.l)))) := by
  obtain ⟨s_a, s_c, s_l⟩ := s
  have k_s : SlK M HeldV.segs 24 ⟨s_a, s_c, s_l⟩ := hs0
  have s_s : SlM M s_a (s_l.map HeldV.segs) 24 := k_s.h1
  have n_s : (s_l.map HeldV.segs).length = s_l.length := List.length_map ..
  have m_s : s_l.length ≤ 9223372036854775807 := k_s.h2
  have c_s : s_l.length ≤ s_c := k_s.h3
  have l_s : ∀ y ∈ s_l, HeldV.ok M y := hs1
  refine fs_enter Tryz.func20 rfl Tryz.ntmps20 rfl ?_; intro H
  refine C_seq ?_
  refine C_region (l := [0]) rfl ?_
  refine Y_assign ?_
  refine XD_end ?_
  refine K_then ?_
  iterate 2 refine C_seq ?_
  refine C_region (l := [0]) rfl ?_
  refine Y_assign ?_
  refine XD_end ?_
  refine K_then ?_
  refine C_block ?_
  refine Y_pk [3, 2, 0] ?_
  refine C_loopS (.succ .zero) (fun (k : Nat) z => z = [(3, .int .i64 (k : Int))] ∧ k ≤ s_l.length ∧ (StOk ((pls s_l).take k))) (fun k => s_l.length - k) (0) (⟨rfl, by omega, by (refine ⟨fun m hm => by simp at hm, by simp⟩)⟩) ?_
  rintro k _ ⟨rfl, hk, hI⟩
  iterate 2 refine C_seq ?_
  refine C_region (l := [0, 1, 2, 3, 4, 5, 6, 7, 8]) rfl ?_
  iterate 2 refine Y_move ?_
  refine Y_len_sl F.elem23 ?_
  refine Y_cmp ?_
  refine Y_move ?_
  refine XD_part 8 rfl (fun hc1 => ?_) (fun hc1 => ?_)
  ·replace hc1 := dT hc1
   refine Y_move ?_
   refine Y_len_sl F.elem23 ?_
   refine Y_cmp ?_
   refine Y_pick ?_
   refine XD_end ?_
   refine K_then ?_
   refine C_cond rfl (fun hc2 => ?_) (fun hc2 => ?_)
   ·replace hc2 := dT hc2
    refine C_skip ?_
    refine K_then ?_
    refine C_seq ?_
    refine C_block ?_
    refine C_seq ?_
    have hpk : (pls s_l)[k]'(by rw [pls_len]; omega) = HeldV.pl s_l[k] := by simp [pls]
    have hp9 : ∀ h : 0 < k, (pls s_l)[k - 1]'(by rw [pls_len]; omega) = HeldV.pl s_l[k - 1] := fun h => by simp [pls]
    have e9 : ∀ h0 : 0 < k, s_l[((k : Int) - 1).toNat]'(by omega) = s_l[k - 1]'(by omega) := fun h0 => by congr 1; omega
    refine C_region_any (l := [0, 1, 2, 3, 4, 5, 6, 7, 8, 9, 10, 11, 12, 13, 14, 15, 16, 17, 18, 19, 20, 21, 22, 23, 24, 25]) #[0, 0, 3, 7, 15, 31, 63, 127, 255, 511, 1023, 2047, 2047, 6143, 16383, 32767, 65535, 2047, 2047, 395263, 919551, 1968127, 4194303, 8388607, 16777215, 33554431] _ rfl (by kernel_rfl) (by kernel_rfl) St.drawn (fun _ h => h) ?_
    iterate 2 refine Y_move ?_
    refine X_indexAddr rfl rfl rfl rfl F.elem23 (by rfl) (by omega) (by exact SlM.plain (by assumption) (by (simp; omega))) rfl ?_
    refine X_fieldAddr_el rfl rfl rfl (by exact SlM.plain (by assumption) (by (simp; omega))) F.foff60_1 rfl ?_
    refine X_load_el rfl rfl rfl (by assumption) (by exact row_map (by omega)) F.lay37 rfl rfl rfl ?_
    refine X_fs rfl rfl F.ok50 rfl (rCelIs_ok _ s_l[k].cell (l_s _ (List.getElem_mem (by omega))).h0) rfl ?_
    rintro _ rfl
    refine Y_not ?_
    refine Y_move ?_
    refine XD_part 22 rfl (fun hc3 => ?_) (fun hc3 => ?_)
    ·replace hc3 := nT hc3
     iterate 17 refine Y_skip ?_
     refine Y_pick ?_
     refine XD_end ?_
     refine K_then ?_
     refine C_true rfl ?_
     refine C_seq ?_
     refine C_region (l := [0]) rfl ?_
     refine Y_assign ?_
     refine XD_end ?_
     refine K_then ?_
     refine C_ret ?_
     refine K_retB ?_
     iterate 2 refine K_ret ?_
     refine K_retB ?_
     refine K_ret ?_
     refine K_end (.inr rfl) (.tmp rfl .nil) (fun w hw => ?_)
     refine ⟨_, rfl, (hw.c), ?_⟩
     clear hw
     show _ = Value.bool (decide (IsSt (pls s_l)))
     refine congrArg Value.bool (decide_eq_false (fun h9 => ?_)).symm
     obtain ⟨_, g1, g2⟩ := (st_take (s := pls s_l) (k := k) (by rw [pls_len]; omega)).1 (st_pre h9.2 (k + 1))
     rw [hpk] at g1
     contradiction
    ·replace hc3 := nF hc3
     refine Y_move ?_
     refine Y_cmp ?_
     refine Y_move ?_
     refine XD_part 25 rfl (fun hc4 => ?_) (fun hc4 => ?_)
     ·replace hc4 := dT hc4
      iterate 2 refine Y_move ?_
      refine X_ari rfl rfl rfl rfl rfl (by exact wrap_in (by decide) (by omega)) rfl ?_
      refine X_indexAddr rfl rfl rfl rfl F.elem23 (by exact (Int.toNat_of_nonneg (by omega)).symm) (by omega) (by exact SlM.plain (by assumption) (by (simp; omega))) rfl ?_
      refine X_fieldAddr_el rfl rfl rfl (by exact SlM.plain (by assumption) (by (simp; omega))) F.foff60_0 rfl ?_
      refine X_load_el rfl rfl rfl (by assumption) (by exact row_map (by omega)) F.lay29 rfl rfl rfl ?_
      iterate 2 refine Y_move ?_
      refine X_indexAddr rfl rfl rfl rfl F.elem23 (by rfl) (by omega) (by exact SlM.plain (by assumption) (by (simp; omega))) rfl ?_
      refine X_fieldAddr_el rfl rfl rfl (by exact SlM.plain (by assumption) (by (simp; omega))) F.foff60_0 rfl ?_
      refine X_load_el rfl rfl rfl (by assumption) (by exact row_map (by omega)) F.lay29 rfl rfl rfl ?_
      refine X_fs rfl rfl F.ok40 rfl (rLess_ok _ _ _) rfl ?_
      rintro _ rfl
      refine Y_not ?_
      iterate 2 refine Y_pick ?_
      refine XD_end ?_
      refine K_then ?_
      refine C_cond rfl (fun hc5 => ?_) (fun hc5 => ?_)
      ·replace hc5 := nT hc5
       simp only [List.get_eq_getElem] at hc5
       refine C_seq ?_
       refine C_region (l := [0]) rfl ?_
       refine Y_assign ?_
       refine XD_end ?_
       refine K_then ?_
       refine C_ret ?_
       refine K_retB ?_
       iterate 2 refine K_ret ?_
       refine K_retB ?_
       refine K_ret ?_
       refine K_end (.inr rfl) (.tmp rfl .nil) (fun w hw => ?_)
       refine ⟨_, rfl, (hw.c), ?_⟩
       clear hw
       show _ = Value.bool (decide (IsSt (pls s_l)))
       refine congrArg Value.bool (decide_eq_false (fun h9 => ?_)).symm
       obtain ⟨_, g1, g2⟩ := (st_take (s := pls s_l) (k := k) (by rw [pls_len]; omega)).1 (st_pre h9.2 (k + 1))
       rw [hpk] at g1
       (have h0 : 0 < k := (by omega); have h7 := g2 h0; have h8 := e9 h0; rw [hpk, hp9 h0] at h7; simp_all [HeldV.pl]; done)
      ·replace hc5 := nF hc5
       simp only [List.get_eq_getElem] at hc5
       refine C_skip ?_
       refine K_out ?_
       refine K_then ?_
       refine C_region (l := [0, 1, 2]) rfl ?_
       refine Y_move ?_
       refine X_ari rfl rfl rfl rfl rfl (by exact wrap_in (by decide) (by omega)) rfl ?_
       refine Y_assign ?_
       refine XD_end ?_
       refine K_roundS (a' := [(3, _)]) (k + 1) (.cons (k := 3) rfl (.cons (k := 2) rfl (.cons (k := 0) rfl (.nil)))) (fun w hw => by first | exact hw | exact hw.c) ?_ ?_
       ·refine ⟨rfl, by omega, ?_⟩
        (rw [st_take (by rw [pls_len]; omega)])
        refine ⟨hI, by rw [hpk]; assumption, fun h0 => ?_⟩
        rw [hpk, hp9 h0]
        (have h8 := e9 h0; simp_all [HeldV.pl]; done)
       ·omega
     ·replace hc4 := dF hc4
      iterate 13 refine Y_skip ?_
      iterate 2 refine Y_pick ?_
      refine XD_end ?_
      refine K_then ?_
      refine C_false rfl ?_
      refine C_skip ?_
      refine K_out ?_
      refine K_then ?_
      refine C_region (l := [0, 1, 2]) rfl ?_
      refine Y_move ?_
      refine X_ari rfl rfl rfl rfl rfl (by exact wrap_in (by decide) (by omega)) rfl ?_
      refine Y_assign ?_
      refine XD_end ?_
      refine K_roundS (a' := [(3, _)]) (k + 1) (.cons (k := 3) rfl (.cons (k := 2) rfl (.cons (k := 0) rfl (.nil)))) (fun w hw => by first | exact hw | exact hw.c) ?_ ?_
      ·refine ⟨rfl, by omega, ?_⟩
       (rw [st_take (by rw [pls_len]; omega)])
       refine ⟨hI, by rw [hpk]; assumption, fun h0 => ?_⟩
       rw [hpk, hp9 h0]
       omega
      ·omega
   ·replace hc2 := dF hc2
    refine C_exit ?_
    iterate 2 refine K_exit ?_
    refine K_hit ?_
    refine K_then ?_
    refine Y_pk [2, 0] ?_
    refine C_seq ?_
    refine C_region (l := [0, 1, 2, 3]) rfl ?_
    refine Y_move ?_
    refine Y_len_sl F.elem23 ?_
    refine Y_cmp ?_
    refine Y_assign ?_
    refine XD_end ?_
    refine K_then ?_
    refine Y_pk [2] ?_
    refine C_ret ?_
    refine K_end (.inr rfl) (.tmp rfl .nil) (fun w hw => ?_)
    refine ⟨_, rfl, (hw.c), ?_⟩
    clear hw
    show _ = Value.bool (decide (IsSt (pls s_l)))
    exact congrArg Value.bool (decide_eq_decide.2 ⟨fun h9 => absurd h9 (by omega), fun h9 => absurd h9.1 (by rw [pls_len]; omega)⟩)
  ·replace hc1 := dF hc1
   iterate 3 refine Y_skip ?_
   refine Y_pick ?_
   refine XD_end ?_
   refine K_then ?_
   refine C_false rfl ?_
   refine C_exit ?_
   iterate 2 refine K_exit ?_
   refine K_hit ?_
   refine K_then ?_
   refine Y_pk [2, 0] ?_
   refine C_seq ?_
   refine C_region (l := [0, 1, 2, 3]) rfl ?_
   refine Y_move ?_
   refine Y_len_sl F.elem23 ?_
   refine Y_cmp ?_
   refine Y_assign ?_
   refine XD_end ?_
   refine K_then ?_
   refine Y_pk [2] ?_
   refine C_ret ?_
   refine K_end (.inr rfl) (.tmp rfl .nil) (fun w hw => ?_)
   refine ⟨_, rfl, (hw.c), ?_⟩
   clear hw
   show _ = Value.bool (decide (IsSt (pls s_l)))
   (have hk9 : k = s_l.length := (by omega); subst hk9; rw [List.take_of_length_le (by rw [pls_len]; omega)] at hI; exact congrArg Value.bool (decide_eq_decide.2 ⟨fun h9 => ⟨by rw [pls_len]; omega, hI⟩, fun h9 => by have := h9.1; rw [pls_len] at this; omega⟩))

end Go.Proofs.YtpkeilhilpogiaaGreat
/-
  DERIVED: THE SHELF's CONTRACTS AT THIS DUMP, IN PLAIN WORDS (tools/lay-plain.mjs out of 'YtpkeilhilpogiaaGreatLayTmp.lean', which tools/lay-shelf.mjs wrote): THE SAME DECLARATIONS UNDER THE SAME NAMES: 'import', 'namespace', 'open', 'def', 'theorem' AND NOTHING ELSE: no command of the shelf's: FOR A HAND-IN. Each laying: the table of numbers ('.._ren') and one theorem, a field a fact of the dump's own or the kernel's comparison; each contract: ONE APPLICATION.
-/
namespace Go.Proofs
open Go.Shelf
def Tryz.sortL_ren : Go.Shelf.Ren := ⟨fun | 6 => 122 | 15 => 116 | 14 => 137 | 28 => 133 | 29 => 134 | 20 => 145 | 21 => 146 | 22 => 147 | 23 => 148 | 24 => 149 | 25 => 150 | 26 => 151 | 27 => 152 | 46 => 154 | 47 => 139 | 48 => 140 | 49 => 155 | 50 => 156 | 57 => 157 | n => n, fun | 22 => 23 | 24 => 60 | 25 => 162 | 3 => 3 | 39 => 144 | 0 => 0 | 53 => 172 | 55 => 22 | 4 => 4 | 46 => 165 | 45 => 164 | 50 => 96 | 5 => 5 | 9 => 9 | 66 => 176 | 70 => 180 | 76 => 188 | 77 => 189 | n => n, fun | n => n⟩
theorem Tryz.sortL : Go.Proofs.SlLaysF0.n6 Tryz.prog Tryz.sortL_ren := {
  mixed := by kernel_rfl
  f6 := ⟨Tryz.f122.name, by decide, Tryz.func122.trans (congrArg some (by kernel_rfl))⟩
  f14 := ⟨Tryz.f137.name, by decide, Tryz.func137.trans (congrArg some (by kernel_rfl))⟩
  f15 := Tryz.func116.trans (congrArg some (by kernel_rfl))
  f20 := ⟨Tryz.f145.name, by decide, Tryz.func145.trans (congrArg some (by kernel_rfl))⟩
  f21 := ⟨Tryz.f146.name, by decide, Tryz.func146.trans (congrArg some (by kernel_rfl))⟩
  f22 := ⟨Tryz.f147.name, by decide, Tryz.func147.trans (congrArg some (by kernel_rfl))⟩
  f23 := ⟨Tryz.f148.name, by decide, Tryz.func148.trans (congrArg some (by kernel_rfl))⟩
  f24 := ⟨Tryz.f149.name, by decide, Tryz.func149.trans (congrArg some (by kernel_rfl))⟩
  f25 := ⟨Tryz.f150.name, by decide, Tryz.func150.trans (congrArg some (by kernel_rfl))⟩
  f26 := ⟨Tryz.f151.name, by decide, Tryz.func151.trans (congrArg some (by kernel_rfl))⟩
  f27 := ⟨Tryz.f152.name, by decide, Tryz.func152.trans (congrArg some (by kernel_rfl))⟩
  f28 := Tryz.func133.trans (congrArg some (by kernel_rfl))
  f29 := Tryz.func134.trans (congrArg some (by kernel_rfl))
  f46 := ⟨Tryz.f154.name, by decide, Tryz.func154.trans (congrArg some (by kernel_rfl))⟩
  f47 := Tryz.func139.trans (congrArg some (by kernel_rfl))
  f48 := Tryz.func140.trans (congrArg some (by kernel_rfl))
  f49 := ⟨Tryz.f155.name, by decide, Tryz.func155.trans (congrArg some (by kernel_rfl))⟩
  f50 := ⟨Tryz.f156.name, by decide, Tryz.func156.trans (congrArg some (by kernel_rfl))⟩
  f57 := ⟨Tryz.f157.name, by decide, Tryz.func157.trans (congrArg some (by kernel_rfl))⟩
  t0 := Tryz.underlying0
  a0 := Tryz.isAgg0
  z0 := Tryz.sizeOf0
  v0 := Tryz.zeroValue0
  t3 := Tryz.underlying3
  a3 := Tryz.isAgg3
  z3 := Tryz.sizeOf3
  v3 := Tryz.zeroValue3
  t4 := Tryz.underlying4
  a4 := Tryz.isAgg4
  z4 := Tryz.sizeOf4
  v4 := Tryz.zeroValue4
  t5 := Tryz.underlying5
  a5 := Tryz.isAgg5
  z5 := Tryz.sizeOf5
  v5 := Tryz.zeroValue5
  t9 := Tryz.underlying9
  a9 := Tryz.isAgg9
  z9 := Tryz.sizeOf9
  v9 := Tryz.zeroValue9
  t22 := Tryz.underlying23
  a22 := Tryz.isAgg23
  z22 := Tryz.sizeOf23
  v22 := Tryz.zeroValue23
  t25 := Tryz.underlying162
  a25 := Tryz.isAgg162
  z25 := Tryz.sizeOf162
  v25 := Tryz.zeroValue162
  t39 := Tryz.underlying144
  a39 := Tryz.isAgg144
  z39 := Tryz.sizeOf144
  v39 := Tryz.zeroValue144
  t45 := Tryz.underlying164
  a45 := Tryz.isAgg164
  z45 := Tryz.sizeOf164
  v45 := Tryz.zeroValue164
  t46 := Tryz.underlying165
  a46 := Tryz.isAgg165
  z46 := Tryz.sizeOf165
  v46 := Tryz.zeroValue165
  t50 := Tryz.underlying96
  a50 := Tryz.isAgg96
  z50 := Tryz.sizeOf96
  v50 := Tryz.zeroValue96
  t53 := Tryz.underlying172
  a53 := Tryz.isAgg172
  z53 := Tryz.sizeOf172
  v53 := Tryz.zeroValue172
  t55 := Tryz.underlying22
  a55 := Tryz.isAgg22
  z55 := Tryz.sizeOf22
  v55 := Tryz.zeroValue22
  t66 := Tryz.underlying176
  a66 := Tryz.isAgg176
  z66 := Tryz.sizeOf176
  v66 := Tryz.zeroValue176
  t70 := Tryz.underlying180
  a70 := Tryz.isAgg180
  z70 := Tryz.sizeOf180
  v70 := Tryz.zeroValue180
  t76 := Tryz.underlying188
  a76 := Tryz.isAgg188
  z76 := Tryz.sizeOf188
  v76 := Tryz.zeroValue188
  t77 := Tryz.underlying189
  a77 := Tryz.isAgg189
  z77 := Tryz.sizeOf189
  v77 := Tryz.zeroValue189 }
end Go.Proofs
/-
  slices.SortFunc, at rows of structs of our own: the shelf's contract, in our terms.
-/
set_option linter.unusedSimpArgs false
set_option linter.unusedVariables false
set_option linter.unnecessarySimpa false
namespace Go.Esp
open Go.Proofs Go.Shelf Go.RowKit Go.Lib Go.Sort

/-- A world's memory, with what was drawn. -/
def memS (W : World) : Mem := ⟨fun b => W.heap[b]?, W.os, W.tape, W.output, W.drawn⟩
theorem St.startS (W : World) : St (memS W) [] W := ⟨fun _ _ h => h, fun _ _ h => (by cases h), fun _ _ h => (by cases h), List.nodup_nil, rfl, rfl, rfl, Nat.le_refl _⟩
theorem lays_of_fs {P : Program} {g : FuncId} {vs : List Value} {r : Value} (h : ∀ M, Fs P g vs M (fun v => v = r)) (W : World) : Calls P g vs.toArray W fun e w' => e = .returned r ∧ ∃ q os', w' = grow (W.drewN q) os' := by
  refine (h (memS W) [] W (St.startS W)).mono ?_
  rintro e w' ⟨v, rfl, hst, rfl⟩
  refine ⟨rfl, w'.drawn - W.drawn, w'.heap.extract W.heap.size w'.heap.size, ?_⟩
  have hp : ∀ b o, W.heap[b]? = some o → w'.heap[b]? = some o := hst.mem
  obtain ⟨h1, h2, h3, h4⟩ := hst.io
  have hle : W.heap.size ≤ w'.heap.size := by
    rcases Nat.eq_zero_or_pos W.heap.size with h0 | h0
    · omega
    · have := hp (W.heap.size - 1) _ (Array.getElem?_eq_getElem (by omega))
      have := (Array.getElem?_eq_some_iff.1 this).1
      omega
  have hh : w'.heap = W.heap ++ w'.heap.extract W.heap.size w'.heap.size := by
    apply Array.ext_getElem?
    intro i
    rw [Array.getElem?_append]
    split
    · rename_i hi
      rw [hp i _ (Array.getElem?_eq_getElem hi), Array.getElem?_eq_getElem hi]
    · rename_i hi
      rw [Array.getElem?_extract]
      rw [show W.heap.size + (i - W.heap.size) = i by omega]
      split
      · rfl
      · rw [Array.getElem?_eq_none]; omega
  cases w' with
  | mk heap tape drawn os output =>
    simp only [grow, World.drewN, World.mk.injEq]
    simp only [memS] at h1 h2 h3 h4
    exact ⟨hh, h2, (Nat.add_sub_cancel' h4).symm, h1, h3⟩

section
variable {α : Type} [Inhabited α] {f : α → Segs} {sz : Nat}
theorem rowsCells_get {rows : List Segs} (h : lens sz rows) {j i : Nat} {r : Segs} (hr : rows[j]? = some r) (hi : i < sz) : (rowsCells rows)[j * sz + i]? = (Segs.cells r)[i]? := by
  rw [← rowsCells_at h hr, List.getElem?_take, if_pos hi, List.getElem?_drop]
theorem flat_get (hpos : 0 < sz) (hk : ∀ x, (Segs.cells (f x)).length = sz) {l : List α} (hl : lens sz (l.map f)) {t : Nat} (ht : t < l.length * sz) :
    (rowsCells (l.map f))[t]? = some ((flatK (fun x => Segs.cells (f x)) sz l.toArray)[t]!) := by
  have hj : t / sz < l.length := (Nat.div_lt_iff_lt_mul hpos).2 ht
  have hm := Nat.mod_lt t hpos
  have h := rowsCells_get hl (j := t / sz) (i := t % sz) (r := f l[t / sz]) (by rw [List.getElem?_map, List.getElem?_eq_getElem hj]; rfl) hm
  rw [Nat.div_add_mod'] at h
  rw [h, get_flatK _ _ _ _ (by simpa using ht)]
  have e : l.toArray[t / sz]! = l[t / sz] := by rw [getElem!_pos _ _ (by simpa using hj)]; simp
  rw [e, List.getElem?_eq_getElem (by rw [hk]; exact hm)]
  congr 1
  rw [getElem!_pos _ _ (by rw [hk]; exact hm)]
theorem st_sorted {M : Mem} {H : Hp} {w : World} {b T : Nat} {cur F : Array Value} (hw : St M ((b, .cells cur T (0, 0)) :: H) w) (n : Nat) (os : Array Obj) :
    St M ((b, .cells (putCells id 0 F cur) T (0, 0)) :: H) (grow (putRow id (Sort.ahead w n) b 0 F) os) := by
  have hb := hw.own b _ (.head _)
  have hlt := (Array.getElem?_eq_some_iff.1 hb).1
  refine hw.upd .head ?_ (fun c hc x hx => ?_) ⟨rfl, rfl, rfl, Nat.le_add_right _ _⟩
  · show ((w.heap.modify b _) ++ os)[b]? = _
    rw [Array.getElem?_append_left (by simpa using hlt), Array.getElem?_modify, if_pos rfl, hb]
    rfl
  · show ((w.heap.modify b _) ++ os)[c]? = _
    have hcl := (Array.getElem?_eq_some_iff.1 hx).1
    rw [Array.getElem?_append_left (by simpa using hcl), Array.getElem?_modify, if_neg (Ne.symm hc), hx]

theorem sort_fh {P : Program} {ρ : Ren} (L : SlLaysF0.n6 P ρ) (aE : ∀ w, (isAgg (ρ.t 24)).run P w = .ok true w) (zE : ∀ w, (Go.sizeOf (ρ.t 24)).run P w = .ok sz w) (hpos : 0 < sz) (hk : ∀ x, (Segs.cells (f x)).length = sz)
    (h1 : ∀ x, ∀ v ∈ Segs.cells (f x), v.oneCell' = true) (cf : α → α → Int) (hO : SWO (ltOf cf)) (g : FuncId) (hg : okFn P g = true) (hc : ∀ M x y, Fs P g [aggV (f x), aggV (f y)] M (fun v => v = .int .i64 (cf x y)))
    {T b c : Nat} {l : List α} {hs : Hp} (ho : OSl T sz (.slice (some ⟨b, 0, none⟩) l.length c) hs (l.map f)) (hl : l.length ≤ 1000000) (M : Mem) :
    Fh P (ρ.f 6) [.slice (some ⟨b, 0, none⟩) l.length c, .func (.func g) #[] #[]] M hs (fun M' v Hout => M' = M ∧ v = .tuple #[] ∧ ∃ l' : List α, l'.Perm l ∧ l'.Pairwise (fun x y => ¬ cf y x < 0) ∧ OSl T sz (.slice (some ⟨b, 0, none⟩) l.length c) Hout (l'.map f)) := by
  obtain ⟨cur, rfl, hl0, hlens, hle, hcm, hcs, htk⟩ := ho.inv
  have hml : (l.map f).length = l.length := List.length_map ..
  rw [hml] at hle htk
  intro H w hw
  have hb := hw.own b _ (.head _)
  have hlt := (Array.getElem?_eq_some_iff.1 hb).1
  have hsz : l.length * sz ≤ cur.size := by rw [hcs]; exact Nat.mul_le_mul_right _ hle
  have hH : HoldsK (fun x => Segs.cells (f x)) sz w b 0 l.toArray := by
    intro j hj
    have hj' : j < l.length * sz := by simpa using hj
    refine ⟨?_, ?_⟩
    · unfold World.cell?
      simp only [hb, Option.isSome_none, Bool.false_eq_true, if_false, Nat.zero_add, id]
      rw [← flat_get hpos hk hlens hj', ← htk, List.getElem?_take, if_pos hj']
      simp
    · unfold World.frozen?
      simp only [hb]
      simp
  have hcl : CmpLays P g #[] (fun x => Segs.cells (f x)) sz cf b 0 l.toArray.size w := fun m os dk _ x y => lays_of_fs (fun M => hc M x y) _
  have key := AnyQ.slices_SortFunc L sz aE zE (fun x => Segs.cells (f x)) hk h1 cf hO g #[] b 0 c l.toArray w (fun args w => callFunc_run hg) hcl hH hlt (by simp; omega)
  rw [show l.toArray.size = l.length from by simp] at key
  refine key.mono ?_
  rintro e w' ⟨rfl, d', n, os, ⟨hp1, _, hp3⟩, hs1, rfl⟩
  have hd : d'.size = l.length := by simpa using hp1
  have hst := st_sorted (F := flatK (fun x => Segs.cells (f x)) sz d') hw n os
  have hperm : d'.toList.Perm l := by
    have h9 := hp3
    rw [show d'.extract 0 l.length = d' from by rw [← hd]; simp, show l.toArray.extract 0 l.length = l.toArray from by rw [show l.length = l.toArray.size from by simp]; simp] at h9
    simpa using h9
  have hlens' : lens sz (d'.toList.map f) := fun r hr => by
    obtain ⟨x, hx, rfl⟩ := List.mem_map.1 hr
    rw [← Segs.cells_length]; exact hk x
  refine ⟨_, M, [(b, .cells (putCells id 0 (flatK (fun x => Segs.cells (f x)) sz d') cur) T (0, 0))], rfl, Mem.le.refl M, hst, rfl, rfl, d'.toList, hperm, ?_, ?_⟩
  · rw [List.pairwise_iff_getElem]
    intro i j hi hj hij
    have h9 := hs1 i j (Nat.zero_le _) hij (by rw [← hd]; simpa using hj)
    rw [getElem!_pos _ _ (by simpa using hj), getElem!_pos _ _ (by simpa using hi)] at h9
    unfold ltOf at h9
    simpa using h9
  · have hln : (d'.toList.map f).length = l.length := by simpa using hd
    have := OSl.own (T := T) b c (d'.toList.map f) (putCells id 0 (flatK (fun x => Segs.cells (f x)) sz d') cur) hlens' (by rw [hln]; exact hle) hcm (by simpa [putCells] using hcs) ?_
    · rw [hln] at this; exact this
    · apply List.ext_getElem?
      intro t
      rw [List.getElem?_take]
      by_cases ht : t < (d'.toList.map f).length * sz
      · rw [if_pos ht]
        have ht' : t < d'.toList.length * sz := by simpa using ht
        rw [flat_get hpos hk hlens' ht']
        have htc : t < cur.size := by rw [hln] at ht; omega
        simp only [putCells, Array.getElem?_toList, Array.getElem?_mapIdx, Array.getElem?_eq_getElem htc, Option.map_some]
        rw [if_pos ⟨Nat.zero_le _, by simpa using ht⟩]
        simp
      · rw [if_neg ht, List.getElem?_eq_none]
        rw [rowsCells_len hlens']; omega
end
end Go.Esp
/-
  What blends cells; the order of keys.
-/
set_option linter.unusedSimpArgs false
set_option linter.unusedVariables false
set_option linter.unnecessarySimpa false
set_option maxRecDepth 8000
set_option maxHeartbeats 1000000
namespace Go.Proofs.YtpkeilhilpogiaaGreat
open Go.Esp
theorem F.ok116 : okFn Tryz.prog 116 = true := by kernel_rfl
theorem F.ok123 : okFn Tryz.prog 123 = true := by kernel_rfl
theorem F.ok137 : okFn Tryz.prog 137 = true := by kernel_rfl
theorem F.ok145 : okFn Tryz.prog 145 = true := by kernel_rfl

theorem last_ok (M : Mem) (a : CellV) (b : CellV) (ha0 : CellV.ok M a) (hb1 : CellV.ok M b) : Esp.Fn Tryz.prog 113 [a.enc, b.enc] M (fun M' v => ∃ c : CellV, v = c.enc ∧ c.pl = lastT a.pl b.pl ∧ CellV.ok M' c) := by
  obtain ⟨a_version, a_has, a_val, ⟨a_marks_a, a_marks_c, a_marks_l⟩⟩ := a
  obtain ⟨b_version, b_has, b_val, ⟨b_marks_a, b_marks_c, b_marks_l⟩⟩ := b
  have k_a_marks : SlK M MarkV.segs 6 ⟨a_marks_a, a_marks_c, a_marks_l⟩ := ha0.h0
  have s_a_marks : SlM M a_marks_a (a_marks_l.map MarkV.segs) 6 := k_a_marks.h1
  have n_a_marks : (a_marks_l.map MarkV.segs).length = a_marks_l.length := List.length_map ..
  have m_a_marks : a_marks_l.length ≤ 9223372036854775807 := k_a_marks.h2
  have c_a_marks : a_marks_l.length ≤ a_marks_c := k_a_marks.h3
  have k_b_marks : SlK M MarkV.segs 6 ⟨b_marks_a, b_marks_c, b_marks_l⟩ := hb1.h0
  have s_b_marks : SlM M b_marks_a (b_marks_l.map MarkV.segs) 6 := k_b_marks.h1
  have n_b_marks : (b_marks_l.map MarkV.segs).length = b_marks_l.length := List.length_map ..
  have m_b_marks : b_marks_l.length ≤ 9223372036854775807 := k_b_marks.h2
  have c_b_marks : b_marks_l.length ≤ b_marks_c := k_b_marks.h3
  refine fn_enter Tryz.func113 rfl Tryz.ntmps113 rfl ?_; intro H
  refine C_seq ?_
  refine C_region (l := [0, 1, 2]) rfl ?_
  refine Y_box ?_; intro b1
  refine Y_box ?_; intro b2
  refine Y_alloc F.zero37 ?_; intro b3
  refine XD_end ?_
  refine K_then ?_
  refine Y_pk [4, 3] ?_
  refine C_seq ?_
  refine C_region (l := [0, 1]) rfl ?_
  refine Y_load F.lay37 ?_
  refine Y_store F.lay37 ?_
  refine XD_end ?_
  refine K_then ?_
  refine Y_pk [4] ?_
  refine C_ret ?_
  refine K_end (.inr rfl) (.cell rfl (by repeat first | exact List.Mem.head _ | refine List.Mem.tail _ ?_ | refine List.mem_append_right _ ?_) F.lay37 rfl rfl .nil) (fun w hw => ?_)
  exact ⟨_, M, rfl, Mem.le.refl M, hw.c, ⟨b_version, b_has, b_val, ⟨b_marks_a, b_marks_c, b_marks_l⟩⟩, rfl, rfl, hb1⟩

theorem last_ok2 : TwoOk Tryz.prog 113 lastT := fun M a b ha hb => last_ok M a b ha hb

theorem row1_ok (M : Mem) (a : HeldV) (b : HeldV) : Fs Tryz.prog 123 [a.enc, b.enc] M (fun v => v = Value.int .i64 (lessH a b)) := by
  obtain ⟨a_key, ⟨a_cell_version, a_cell_has, a_cell_val, ⟨a_cell_marks_a, a_cell_marks_c, a_cell_marks_l⟩⟩⟩ := a
  obtain ⟨b_key, ⟨b_cell_version, b_cell_has, b_cell_val, ⟨b_cell_marks_a, b_cell_marks_c, b_cell_marks_l⟩⟩⟩ := b
  refine fs_enter Tryz.func123 rfl Tryz.ntmps123 rfl ?_; intro H
  refine C_seq ?_
  refine C_region (l := [0, 1, 2]) rfl ?_
  refine Y_box ?_; intro b1
  refine Y_box ?_; intro b2
  refine Y_assign ?_
  refine XD_end ?_
  refine K_then ?_
  refine Y_pk [4, 3, 2] ?_
  iterate 2 refine C_seq ?_
  refine C_region (l := [0, 1, 2, 3, 4]) rfl ?_
  refine Y_fieldAddr F.foff60_0 ?_
  refine Y_load F.lay29 ?_
  refine Y_fieldAddr F.foff60_0 ?_
  refine Y_load F.lay29 ?_
  refine X_fs rfl rfl F.ok37 rfl (Less_ok _ _ _) rfl ?_
  rintro _ rfl
  refine XD_end ?_
  refine K_then ?_
  refine Y_pk [9, 4] ?_
  refine C_cond rfl (fun hc3 => ?_) (fun hc3 => ?_)
  ·replace hc3 := dT hc3
   refine C_seq ?_
   refine C_region (l := [0]) rfl ?_
   refine Y_assign ?_
   refine XD_end ?_
   refine K_then ?_
   refine Y_pk [4] ?_
   refine C_ret ?_
   refine K_ret ?_
   refine K_end (.inr rfl) (.tmp rfl .nil) (fun w hw => ?_)
   refine ⟨_, rfl, (hw.c), ?_⟩
   clear hw
   refine congrArg (Value.int .i64) ?_
   unfold lessH
   exact (if_pos (by assumption)).symm
  ·replace hc3 := dF hc3
   refine C_skip ?_
   refine K_then ?_
   refine Y_pk [4] ?_
   refine C_seq ?_
   refine C_region (l := [0]) rfl ?_
   refine Y_assign ?_
   refine XD_end ?_
   refine K_then ?_
   refine C_ret ?_
   refine K_end (.inr rfl) (.tmp rfl .nil) (fun w hw => ?_)
   refine ⟨_, rfl, (hw.c), ?_⟩
   clear hw
   refine congrArg (Value.int .i64) ?_
   unfold lessH
   exact (if_neg (by assumption)).symm

theorem lessH_swo : Sort.SWO (ltOf lessH) := by
  have e : ∀ x y : HeldV, ltOf lessH x y = decide (LessP x.key y.key) := by
   intro x y; unfold ltOf lessH
   by_cases h : LessP x.key y.key <;> simp [h]
  exact ⟨fun x => by rw [e]; simp [LessP], fun x y z h1 h2 => by rw [e] at h1 h2 ⊢; exact decide_eq_true (Nat.lt_trans (of_decide_eq_true h1) (of_decide_eq_true h2)), fun x y z h1 h2 => by rw [e] at h1 h2 ⊢; exact decide_eq_false (Nat.not_lt.2 (Nat.le_trans (Nat.not_lt.1 (of_decide_eq_false h2)) (Nat.not_lt.1 (of_decide_eq_false h1))))⟩

instance : Inhabited HeldV := ⟨HeldV.zero⟩

theorem InsH_nil (M : Mem) (g : FuncId) : Fs Tryz.prog 145 [.slice none 0 0, .int .i64 0, .int .i64 0, .func (.func g) #[] #[]] M (fun v => v = .tuple #[]) := by
  refine fs_enter Tryz.func145 rfl Tryz.ntmps145 rfl ?_; intro H
  refine C_seq ?_
  refine C_region (l := [0, 1, 2]) rfl ?_
  refine Y_move ?_
  refine X_ari rfl rfl rfl rfl rfl (by exact wrap_in (by decide) (by omega)) rfl ?_
  refine Y_assign ?_
  refine XD_end ?_
  refine K_then ?_
  refine Y_pk [8, 0, 1, 2, 3] ?_
  refine C_block ?_
  refine Y_pk [8, 0, 1, 2, 3] ?_
  refine C_loopS (.succ .zero) (fun (_ : Nat) z => z = [(8, .int .i64 1)]) (fun _ => 1) (0) (rfl) ?_
  rintro _ _ rfl
  iterate 2 refine C_seq ?_
  refine C_region (l := [0, 1, 2]) rfl ?_
  iterate 2 refine Y_move ?_
  refine Y_cmp ?_
  refine XD_end ?_
  refine K_then ?_
  refine C_cond rfl (fun hc1 => ?_) (fun hc1 => ?_)
  ·replace hc1 := dT hc1
   (exfalso; omega)
  ·replace hc1 := dF hc1
   refine C_exit ?_
   iterate 2 refine K_exit ?_
   refine K_hit ?_
   refine K_end (.inl rfl) (.nil) (fun w hw => ?_)
   exact ⟨_, rfl, hw.c, rfl⟩

theorem PdqH_nil (M : Mem) (g : FuncId) (lim : Int) : Fs Tryz.prog 137 [.slice none 0 0, .int .i64 0, .int .i64 0, .int .i64 lim, .func (.func g) #[] #[]] M (fun v => v = .tuple #[]) := by
  refine fs_enter Tryz.func137 rfl Tryz.ntmps137 rfl ?_; intro H
  refine C_seq ?_
  refine C_region (l := [0]) rfl ?_
  refine Y_assign ?_
  refine XD_end ?_
  refine K_then ?_
  refine C_seq ?_
  refine C_region (l := [0]) rfl ?_
  refine Y_assign ?_
  refine XD_end ?_
  refine K_then ?_
  refine C_block ?_
  refine Y_pk [1, 2, 3, 10, 11, 0, 4] ?_
  refine C_loopS (.succ (.succ (.succ (.succ (.succ .zero))))) (fun (_ : Nat) z => z = [(1, .int .i64 0), (2, .int .i64 0), (3, .int .i64 lim), (10, .bool true), (11, .bool true)]) (fun _ => 1) (0) (rfl) ?_
  rintro _ _ rfl
  refine C_block ?_
  refine C_seq ?_
  refine C_region (l := [0, 1, 2, 3]) rfl ?_
  iterate 2 refine Y_move ?_
  refine X_ari rfl rfl rfl rfl rfl (by exact wrap_in (by decide) (by omega)) rfl ?_
  refine Y_assign ?_
  refine XD_end ?_
  refine K_then ?_
  iterate 2 refine C_seq ?_
  refine C_region (l := [0, 1]) rfl ?_
  refine Y_move ?_
  refine Y_cmp ?_
  refine XD_end ?_
  refine K_then ?_
  refine C_cond rfl (fun hc1 => ?_) (fun hc1 => ?_)
  ·replace hc1 := dT hc1
   refine C_seq ?_
   refine C_region (l := [0, 1, 2, 3, 4]) rfl ?_
   iterate 4 refine Y_move ?_
   refine X_fs rfl rfl F.ok145 rfl (InsH_nil M g) rfl ?_
   rintro _ rfl
   refine XD_end ?_
   refine K_then ?_
   refine Y_pk [29, 28, 27, 26, 25, 24, 12, 23, 22, 21, 1, 2, 3, 10, 11, 0, 4] ?_
   refine C_ret ?_
   refine K_ret ?_
   refine K_retB ?_
   refine K_ret ?_
   refine K_retB ?_
   refine K_end (.inr rfl) (.nil) (fun w hw => ?_)
   exact ⟨_, rfl, hw.c, rfl⟩
  ·replace hc1 := dF hc1
   (exfalso; omega)

theorem LenH_nil (M : Mem) : Fs Tryz.prog 116 [.int .u64 0] M (fun v => v = .int .i64 (Lib.bitLen 0)) := fun H w hw => (Any.bits_Len (SlLaysF0.n15.bits (P := Tryz.prog) (ρ := Tryz.sortL_ren) { Tryz.sortL with }) 0 w (by omega) (by omega)).mono fun _ _ ⟨he, hw2⟩ => ⟨_, he, by rw [hw2]; exact hw, rfl⟩

theorem SortH_nil (M : Mem) (g : FuncId) : Fs Tryz.prog 122 [.slice none 0 0, .func (.func g) #[] #[]] M (fun v => v = .tuple #[]) := by
  refine fs_enter Tryz.func122 rfl Tryz.ntmps122 rfl ?_; intro H
  refine C_seq ?_
  refine C_region (l := [0, 1, 2]) rfl ?_
  refine Y_move ?_
  refine Y_len_sl F.elem23 ?_
  refine Y_assign ?_
  refine XD_end ?_
  refine K_then ?_
  refine Y_pk [4, 0, 1] ?_
  refine C_region (l := [0, 1, 2, 3, 4, 5, 6]) rfl ?_
  iterate 3 refine Y_move ?_
  refine X_conv rfl rfl rfl Tryz.underlying3 Tryz.underlying144 (by exact wrap_u64_in (by decide) (by omega)) rfl ?_
  refine X_fs rfl rfl F.ok116 rfl (LenH_nil M) rfl ?_
  rintro _ rfl
  refine Y_move ?_
  refine X_fs rfl rfl F.ok137 rfl (PdqH_nil M g _) rfl ?_
  rintro _ rfl
  refine XD_end ?_
  refine K_end (.inl rfl) (.nil) (fun w hw => ?_)
  exact ⟨_, rfl, hw.c, rfl⟩

theorem SortH_ok (M : Mem) (a : Option Addr) (c : Nat) (l : List HeldV) (hs : Hp) (ho : OSl 60 24 (.slice a l.length c) hs (l.map HeldV.segs)) (hl : l.length ≤ 1000000) : Fh Tryz.prog 122 [.slice a l.length c, .func (.func 123) #[] #[]] M hs (fun M' v Hout => M' = M ∧ v = .tuple #[] ∧ ∃ l' : List HeldV, l'.Perm l ∧ l'.Pairwise (fun x y => ¬ lessH y x < 0) ∧ OSl 60 24 (.slice a l.length c) Hout (l'.map HeldV.segs)) := by
  cases a with
  |none =>
   obtain ⟨rfl, rfl, rfl⟩ := ho.noneAll
   exact fun H w hw => (SortH_nil M 123 H w hw).mono fun e w' ⟨v, he, hst, hv⟩ => ⟨v, M, [], he, Mem.le.refl M, hst, rfl, hv, [], .refl _, .nil, OSl.nil⟩
  |some ad =>
   obtain ⟨b, rfl⟩ := ho.someAll
   exact sort_fh (f := HeldV.segs) (sz := 24) Tryz.sortL Tryz.isAgg60 Tryz.sizeOf60 (by decide) (fun x => (Segs.cells_length _).trans (HeldV.len x)) (fun x => HeldV.flat x) lessH lessH_swo 123 F.ok123 (fun M x y => row1_ok M x y) ho hl M

end Go.Proofs.YtpkeilhilpogiaaGreat
/-
  A cell put into a map.
-/
set_option linter.unusedSimpArgs false
set_option linter.unusedVariables false
set_option linter.unnecessarySimpa false
set_option maxRecDepth 8000
set_option maxHeartbeats 1000000
namespace Go.Proofs.YtpkeilhilpogiaaGreat
open Go.Esp
theorem F.foff151_0 : foff Tryz.prog 151 0 = some 0 := by kernel_rfl
theorem F.foff151_1 : foff Tryz.prog 151 1 = some 1 := by kernel_rfl
theorem F.lay148 : lay Tryz.prog 148 = some (false, 1) := by kernel_rfl
theorem F.lay149 : lay Tryz.prog 149 = some (false, 1) := by kernel_rfl
theorem F.zidk : IdK Tryz.prog 29 5 [.i .u8, .i .u8, .i .u8, .i .u8, .i .u8, .i .u8, .i .u8, .i .u8, .i .u8, .i .u8, .i .u8, .i .u8, .i .u8, .i .u8, .i .u8, .i .u8, .i .u8, .i .u8, .i .u8, .i .u8] := ⟨Tryz.underlying29, Tryz.underlying5, (by obtain ⟨d, i, _, h2, h3, _⟩ := lay_spec F.lay5; exact ⟨i, h2, h3⟩), F.kinds29, fun x => fit_id fit_nil⟩

theorem bput_ok (M : Mem) (bm : Nat) (m : PM CellV) (om : Obj) (hom : pmO CellV.enc om m) (hmo : ∀ p ∈ m, CellV.ok M p.2) (two : Cel → Cel → Cel) (gt : FuncId) (hgt : okFn Tryz.prog gt = true) (htwo : TwoOk Tryz.prog gt two) (key : Plc) (c : CellV) (hc0 : CellV.ok M c) : Fh Tryz.prog 121 [aggV [.one (.map (some bm)), .one (.func (.func gt) #[] #[])], aggV [idSeg key], CellV.enc c] M [(bm, om)] (fun M' v Hout => v = .tuple #[] ∧ ∃ (c' : CellV) (om' : Obj), Hout = [(bm, om')] ∧ pmO CellV.enc om' (pmPut m key c') ∧ (c'.pl = match findS (mpl m) key with | some x => two x c.pl | none => c.pl) ∧ CellV.ok M' c') := by
  obtain ⟨c_v, c_h, c_s, ⟨c_a, c_c, c_l⟩⟩ := c
  refine fh_enter Tryz.func121 rfl Tryz.ntmps121 rfl ?_; intro H
  refine C_seq ?_
  refine C_region (l := [0, 1, 2]) rfl ?_
  refine Y_box ?_; intro b1
  refine Y_box ?_; intro b2
  refine Y_box ?_; intro b3
  refine XD_end ?_
  refine K_then ?_
  refine Y_pk [5, 4, 3] ?_
  iterate 2 refine C_seq ?_
  refine C_region (l := [0, 1, 2, 3, 4, 5, 6, 7, 8, 9]) rfl ?_
  refine Y_fieldAddr F.foff151_0 ?_
  refine Y_load F.lay148 ?_
  refine Y_load F.lay29 ?_
  obtain ⟨xg, hxg⟩ : ∃ x, (pmGet m key).getD CellV.zero = x := ⟨_, rfl⟩
  obtain ⟨ib, hib⟩ : ∃ b, (pmGet m key).isSome = b := ⟨_, rfl⟩
  refine X_lookup2P (z := CellV.zero) rfl rfl rfl rfl F.zidk Tryz.underlying148 (show _ = some (CellV.enc CellV.zero) from F.zero37) (by repeat first | exact List.Mem.head _ | refine List.Mem.tail _ ?_ | refine List.mem_append_right _ ?_) hom rfl ?_
  rw [hxg, hib]
  obtain ⟨x_v, x_h, x_s, ⟨x_a, x_c, x_l⟩⟩ := xg
  refine Y_move ?_
  iterate 2 refine Y_extract ?_
  refine Y_alloc F.zero37 ?_; intro b4
  refine Y_store F.lay37 ?_
  refine Y_assign ?_
  refine XD_end ?_
  refine K_then ?_
  refine Y_pk [7, 6, 5, 4, 3] ?_
  refine C_seq ?_
  refine C_region (l := [0]) rfl ?_
  refine Y_move ?_
  refine XD_end ?_
  refine K_then ?_
  refine Y_pk [15, 6, 5, 4, 3] ?_
  refine C_cond rfl (fun hc5 => ?_) (fun hc5 => ?_)
  ·skip
   have hgx : pmGet m key = some ⟨x_v, x_h, x_s, ⟨x_a, x_c, x_l⟩⟩ := by
    have h9 : (pmGet m key).isSome = true := by rw [hib]; assumption
    obtain ⟨x9, hx9⟩ := Option.isSome_iff_exists.1 h9
    rw [hx9] at hxg ⊢
    exact congrArg some hxg
   have okx := hmo _ (pmGet_mem hgx)
   refine C_region (l := [0, 1, 2, 3, 4, 5]) rfl ?_
   refine Y_fieldAddr F.foff151_1 ?_
   refine Y_load F.lay149 ?_
   iterate 2 refine Y_load F.lay37 ?_
   refine X_foV (caps := []) rfl rfl rfl hgt rfl rfl ((htwo M ⟨x_v, x_h, x_s, ⟨x_a, x_c, x_l⟩⟩ ⟨c_v, c_h, c_s, ⟨c_a, c_c, c_l⟩⟩ okx hc0).fo []) (Rem.here _) (putE_some rfl) ?_
   rintro _ M1 hm1 ⟨⟨y_v, y_h, y_s, ⟨y_a, y_c, y_l⟩⟩, rfl, hy, oky⟩
   refine Y_store F.lay37 ?_
   refine XD_end ?_
   refine K_then ?_
   refine Y_pk [5, 4, 3] ?_
   refine C_region (l := [0, 1, 2, 3, 4]) rfl ?_
   refine Y_fieldAddr F.foff151_0 ?_
   refine Y_load F.lay148 ?_
   refine Y_load F.lay29 ?_
   refine Y_load F.lay37 ?_
   refine X_mapUpdateP (v := (⟨y_v, y_h, y_s, ⟨y_a, y_c, y_l⟩⟩ : CellV)) rfl rfl rfl rfl rfl F.zidk Tryz.underlying148 hom (by repeat first | exact List.Mem.head _ | refine List.Mem.tail _ ?_ | refine List.mem_append_right _ ?_) ?_; intro o2 him2; refine ⟨_, (by repeat first | exact Upd.head | apply Upd.tail | apply Upd.over), ?_⟩
   refine XD_end ?_
   refine K_end (.inl rfl) (.nil) (fun w hw => ?_)
   exact ⟨_, M1, [(bm, o2)], rfl, hm1, hw.c, rfl, ⟨y_v, y_h, y_s, ⟨y_a, y_c, y_l⟩⟩, o2, rfl, him2, by rw [← mpl_get, hgx]; exact hy, oky⟩
  ·skip
   refine C_skip ?_
   refine K_then ?_
   refine Y_pk [5, 4, 3] ?_
   refine C_region (l := [0, 1, 2, 3, 4]) rfl ?_
   refine Y_fieldAddr F.foff151_0 ?_
   refine Y_load F.lay148 ?_
   refine Y_load F.lay29 ?_
   refine Y_load F.lay37 ?_
   refine X_mapUpdateP (v := (⟨c_v, c_h, c_s, ⟨c_a, c_c, c_l⟩⟩ : CellV)) rfl rfl rfl rfl rfl F.zidk Tryz.underlying148 hom (by repeat first | exact List.Mem.head _ | refine List.Mem.tail _ ?_ | refine List.mem_append_right _ ?_) ?_; intro o2 him2; refine ⟨_, (by repeat first | exact Upd.head | apply Upd.tail | apply Upd.over), ?_⟩
   refine XD_end ?_
   refine K_end (.inl rfl) (.nil) (fun w hw => ?_)
   have hgn : pmGet m key = none := by
    have h9 : (pmGet m key).isSome = false := by rw [hib]; assumption
    simpa using h9
   exact ⟨_, M, [(bm, o2)], rfl, Mem.le.refl M, hw.c, rfl, ⟨c_v, c_h, c_s, ⟨c_a, c_c, c_l⟩⟩, o2, rfl, him2, by rw [← mpl_get, hgn]; rfl, hc0⟩

end Go.Proofs.YtpkeilhilpogiaaGreat
/-
  Stores put into a map.
-/
set_option linter.unusedSimpArgs false
set_option linter.unusedVariables false
set_option linter.unnecessarySimpa false
set_option maxRecDepth 8000
set_option maxHeartbeats 1000000
namespace Go.Proofs.YtpkeilhilpogiaaGreat
open Go.Esp
theorem F.bld151 : Bld Tryz.prog 151 [[.one (.map none)], [.one .nilFunc]] := ⟨by kernel_rfl, by kernel_rfl⟩
theorem F.elem159 : slOf Tryz.prog 159 = some (23, 1, 24) := by kernel_rfl
theorem F.lay151 : lay Tryz.prog 151 = some (true, 2) := by kernel_rfl
theorem F.lay23 : lay Tryz.prog 23 = some (false, 1) := by kernel_rfl
theorem F.ok121 : okFn Tryz.prog 121 = true := by kernel_rfl
theorem F.zero151 : zeroOf Tryz.prog 151 = some (aggV [.one (.map none), .one .nilFunc]) := by kernel_rfl

theorem bof_ok (M : Mem) (all : Sl (Sl HeldV)) (two : Cel → Cel → Cel) (gt : FuncId) (hgt : okFn Tryz.prog gt = true) (htwo : TwoOk Tryz.prog gt two) (k_all : SlK M (fun x => [.one (Sl.val x)]) 1 all) (hall : ∀ s ∈ all.l, SlK M HeldV.segs 24 s ∧ ∀ h ∈ s.l, HeldV.ok M h) (hcel : ∀ s ∈ all.l, ∀ h ∈ s.l, IsCel h.cell.pl) (ht : Keeps2 two) : Fh Tryz.prog 112 [.func (.func gt) #[] #[], Sl.val all] M [] (fun M' v Hout => ∃ (bm : Nat) (om : Obj) (m : PM CellV), v = aggV [.one (.map (some bm)), .one (.func (.func gt) #[] #[])] ∧ Hout = [(bm, om)] ∧ pmO CellV.enc om m ∧ (mpl m).Perm (ofS two (all.l.map fun s => pls s.l)) ∧ ∀ p ∈ m, CellV.ok M' p.2) := by
  obtain ⟨all_a, all_c, all_l⟩ := all
  simp only at hall hcel
  have s_all := k_all.h1
  simp only at s_all
  have m_all : all_l.length ≤ 9223372036854775807 := k_all.h2
  have n_all : (all_l.map fun x => ([.one (Sl.val x)] : Segs)).length = all_l.length := List.length_map ..
  refine fh_enter Tryz.func112 rfl Tryz.ntmps112 rfl ?_; intro H
  refine C_seq ?_
  refine C_region (l := [0]) rfl ?_
  refine Y_alloc F.zero151 ?_; intro b1
  refine XD_end ?_
  refine K_then ?_
  refine C_seq ?_
  refine C_region (l := [0, 1, 2, 3, 4]) rfl ?_
  refine X_makeMap rfl rfl rfl ?_; intro b2
  refine Y_move ?_
  refine X_build rfl rfl F.bld151 (.cons rfl (by constructor) (.cons rfl (by constructor) .nil)) rfl rfl ?_
  refine Y_alloc F.zero151 ?_; intro b3
  refine Y_store F.lay151 ?_
  refine XD_end ?_
  refine K_then ?_
  refine Y_pk [5, 4, 1] ?_
  iterate 2 refine C_seq ?_
  refine C_region (l := [0, 1, 2]) rfl ?_
  refine Y_move ?_
  refine Y_len_sl F.elem159 ?_
  refine Y_move ?_
  refine XD_end ?_
  refine K_then ?_
  refine Y_pk [15, 14, 13, 5, 4] ?_
  refine C_block ?_
  refine Y_pk [15, 14, 13, 5, 4] ?_
  refine C_loopO (Hin := [(b2, .map #[] 0)]) (.succ .zero) (by repeat first | exact Rem.here _ | exact Rem.two | apply Rem.skip | apply Rem.over) (fun (k : Nat) M1 h1 z => ∃ (m : PM CellV) (om : Obj), z = [(15, .int .i64 (k : Int))] ∧ k ≤ all_l.length ∧ h1 = [(b2, om)] ∧ pmO CellV.enc om m ∧ (mpl m).Perm (ofS two ((all_l.map fun s : Sl HeldV => pls s.l).take (k))) ∧ ∀ p ∈ m, CellV.ok M1 p.2) (fun k => all_l.length - k) (0) (⟨[], _, rfl, by omega, rfl, pmO.nil _, by simp [ofS, mpl], fun p hp => by cases hp⟩) ?_
  rintro k M1 h1 z hm1 ⟨m, om, rfl, hk, rfl, hom, hpm, hmo⟩
  have s_all1 := s_all.mono hm1
  refine C_seq ?_
  refine C_region (l := [0]) rfl ?_
  refine Y_cmp ?_
  refine XD_end ?_
  refine K_then ?_
  refine C_seq ?_
  refine C_cond rfl (fun hc4 => ?_) (fun hc4 => ?_)
  ·replace hc4 := dT hc4
   refine C_skip ?_
   refine K_then ?_
   refine C_seq ?_
   refine C_block ?_
   refine C_seq ?_
   refine C_region (l := [0, 1, 2]) rfl ?_
   refine X_indexAddr rfl rfl rfl rfl F.elem159 (by rfl) (by omega) (by exact SlM.plain (by assumption) (by (simp; omega))) rfl ?_
   refine X_load_el rfl rfl rfl (by assumption) (by exact row_map (by omega)) F.lay23 rfl rfl rfl ?_
   obtain ⟨⟨q_a, q_c, q_l⟩, hq⟩ : ∃ q, all_l[k]'(by omega) = q := ⟨_, rfl⟩
   rw [hq]
   have hqm : (⟨q_a, q_c, q_l⟩ : Sl HeldV) ∈ all_l := by rw [← hq]; exact List.getElem_mem (by omega)
   obtain ⟨k_q, l_q⟩ := hall _ hqm
   have hcq := hcel _ hqm
   try simp only at l_q hcq
   have s_q1 := k_q.h1.mono hm1
   try simp only at s_q1
   have m_q : q_l.length ≤ 9223372036854775807 := k_q.h2
   have n_q : (q_l.map HeldV.segs).length = q_l.length := List.length_map ..
   refine Y_assign ?_
   refine XD_end ?_
   refine K_then ?_
   refine C_seq ?_
   refine C_region (l := [0, 1, 2]) rfl ?_
   refine Y_move ?_
   refine Y_len_sl F.elem23 ?_
   refine Y_move ?_
   refine XD_end ?_
   refine K_then ?_
   refine C_block ?_
   refine Y_pk [21, 20, 19, 7, 18, 17, 16, 15, 14, 13, 5, 4] ?_
   refine C_loopO (Hin := [(b2, om)]) (.succ .zero) (by repeat first | exact Rem.here _ | exact Rem.two | apply Rem.skip | apply Rem.over) (fun (j : Nat) M2 h2 z => ∃ (m2 : PM CellV) (om2 : Obj), z = [(21, .int .i64 (j : Int))] ∧ j ≤ q_l.length ∧ h2 = [(b2, om2)] ∧ pmO CellV.enc om2 m2 ∧ (mpl m2).Perm ((pls (q_l.take (j))).foldl (blendS two) (ofS two ((all_l.map fun s : Sl HeldV => pls s.l).take (k)))) ∧ ∀ p ∈ m2, CellV.ok M2 p.2) (fun j => q_l.length - j) (0) (⟨m, om, rfl, by omega, rfl, hom, by simpa [pls] using hpm, hmo⟩) ?_
   rintro j M2 h2 z hm2 ⟨m2, om2, rfl, hj, rfl, hom2, hpm2, hmo2⟩
   have s_q2 := s_q1.mono hm2
   try simp only at s_q2
   refine C_seq ?_
   refine C_region (l := [0]) rfl ?_
   refine Y_cmp ?_
   refine XD_end ?_
   refine K_then ?_
   refine C_seq ?_
   refine C_cond rfl (fun hc5 => ?_) (fun hc5 => ?_)
   ·replace hc5 := dT hc5
    refine C_skip ?_
    refine K_then ?_
    refine C_seq ?_
    refine C_block ?_
    refine C_seq ?_
    refine C_region (l := [0, 1, 2, 3]) rfl ?_
    refine X_indexAddr rfl rfl rfl rfl F.elem23 (by rfl) (by omega) (by exact SlM.plain (by assumption) (by (simp; omega))) rfl ?_
    refine X_load_el rfl rfl rfl (by assumption) (by exact row_map (by omega)) F.lay60 rfl rfl rfl ?_
    refine Y_alloc F.zero60 ?_; intro b6
    refine Y_store F.lay60 ?_
    refine XD_end ?_
    refine K_then ?_
    refine C_regionR (l := [0, 1, 2, 3, 4, 5]) (Hin := [(b2, om2)]) (by repeat first | exact Rem.here _ | exact Rem.two | apply Rem.skip | apply Rem.over) rfl ?_
    refine Y_load F.lay151 ?_
    refine Y_fieldAddr F.foff60_0 ?_
    refine Y_load F.lay29 ?_
    refine Y_fieldAddr F.foff60_1 ?_
    refine Y_load F.lay37 ?_
    refine X_fhR rfl rfl F.ok121 rfl (bput_ok _ b2 m2 om2 hom2 hmo2 two gt hgt htwo q_l[j].key q_l[j].cell ((l_q _ (List.getElem_mem (by omega))).h0.mono (hm1.trans hm2))) (by repeat first | exact Rem.here _ | exact Rem.two | apply Rem.skip | apply Rem.over) (fun _ _ _ hm hw => (hw.lower (by exact hm)).c) (putE_some rfl) ?_
    rintro _ M3 _ hm3 ⟨rfl, c9, om3, rfl, hom3, hc9, okc9⟩
    refine XD_end ?_
    refine K_out ?_
    refine K_then ?_
    refine Y_pk [29, 28, 27, 26, 25, 9, 24, 23, 22, 21, 20, 19, 7, 18, 17, 16, 15, 14, 13, 5, 4] ?_
    refine C_region (l := [0, 1]) rfl ?_
    refine X_ari rfl rfl rfl rfl rfl (by exact wrap_in (by decide) (by omega)) rfl ?_
    refine Y_move ?_
    refine XD_end ?_
    refine K_roundO (a' := [(21, _)]) (j + 1) ([(b2, om3)]) (.cons (k := 21) rfl (.cons (k := 20) rfl (.cons (k := 19) rfl (.cons (k := 7) rfl (.cons (k := 18) rfl (.cons (k := 17) rfl (.cons (k := 16) rfl (.cons (k := 15) rfl (.cons (k := 14) rfl (.cons (k := 13) rfl (.cons (k := 5) rfl (.cons (k := 4) rfl (.nil))))))))))))) (hm2.trans hm3) (fun w hw => by first | exact hw | exact hw.c) ?_ ?_
    ·refine ⟨pmPut m2 q_l[j].key c9, om3, rfl, by omega, rfl, hom3, ?_, fun p hp => ?_⟩
     ·have hSj : StOk ((pls (q_l.take (j))).foldl (blendS two) (ofS two ((all_l.map fun s : Sl HeldV => pls s.l).take (k)))) := foldB_ok ht (ofS_ok ht (fun s hs x hx => by
       obtain ⟨s9, h1, rfl⟩ := List.mem_map.1 (List.mem_of_mem_take hs)
       obtain ⟨y, hy, rfl⟩ := List.mem_map.1 hx
       exact hcel s9 h1 y hy)) (fun x hx => by
       obtain ⟨y, hy, rfl⟩ := List.mem_map.1 hx
       exact hcq y (List.mem_of_mem_take hy))
      have h9 := blend_map ht hSj hpm2 (k := q_l[j].key) (c := q_l[j].cell) (hcq _ (List.getElem_mem (by omega))) hc9
      have e9 : ((pls (q_l.take (j + 1))).foldl (blendS two) (ofS two ((all_l.map fun s : Sl HeldV => pls s.l).take (k)))) = blendS two ((pls (q_l.take (j))).foldl (blendS two) (ofS two ((all_l.map fun s : Sl HeldV => pls s.l).take (k)))) ⟨q_l[j].key, q_l[j].cell.pl⟩ := by
       unfold pls
       rw [List.map_take, List.map_take, foldB_step (by simpa using (show j < q_l.length by omega)), List.getElem_map]; rfl
      rw [e9]
      exact h9
     ·rcases put_mem hp with rfl | hp
      ·exact okc9
      ·exact (hmo2 p hp).mono hm3
    ·omega
   ·replace hc5 := dF hc5
    refine C_exit ?_
    iterate 2 refine K_exit ?_
    refine K_hit ?_
    refine K_out ?_
    refine K_then ?_
    refine C_region (l := [0, 1]) rfl ?_
    refine X_ari rfl rfl rfl rfl rfl (by exact wrap_in (by decide) (by omega)) rfl ?_
    refine Y_move ?_
    refine XD_end ?_
    refine K_roundO (a' := [(15, _)]) (k + 1) ([(b2, om2)]) (.cons (k := 15) rfl (.cons (k := 14) rfl (.cons (k := 13) rfl (.cons (k := 5) rfl (.cons (k := 4) rfl (.nil)))))) (hm1.trans hm2) (fun w hw => by first | exact hw | exact hw.c) ?_ ?_
    ·refine ⟨m2, om2, rfl, by omega, rfl, hom2, ?_, hmo2⟩
     obtain rfl : j = q_l.length := by omega
     rw [List.take_length] at hpm2
     rw [ofS_step (by simpa using (show k < all_l.length by omega))]
     have e9 : (all_l.map fun s : Sl HeldV => pls s.l)[k]'(by simpa using (show k < all_l.length by omega)) = pls q_l := by rw [List.getElem_map, hq]
     rw [e9]
     exact hpm2
    ·omega
  ·replace hc4 := dF hc4
   refine C_exit ?_
   iterate 2 refine K_exit ?_
   refine K_hit ?_
   refine K_then ?_
   refine Y_pk [5, 4] ?_
   refine C_seq ?_
   refine C_region (l := [0, 1]) rfl ?_
   refine Y_load F.lay151 ?_
   refine Y_store F.lay151 ?_
   refine XD_end ?_
   refine K_then ?_
   refine Y_pk [4] ?_
   refine C_ret ?_
   refine K_end (.inr rfl) (.cell rfl (by repeat first | exact List.Mem.head _ | refine List.Mem.tail _ ?_ | refine List.mem_append_right _ ?_) F.lay151 rfl rfl .nil) (fun w hw => ?_)
   obtain rfl : k = all_l.length := by omega
   rw [List.take_of_length_le (by simp)] at hpm
   exact ⟨_, M1, [(b2, om)], rfl, hm1, hw.c, b2, om, m, rfl, rfl, hom, hpm, hmo⟩

end Go.Proofs.YtpkeilhilpogiaaGreat
/-
  A map of cells as a row.
-/
set_option linter.unusedSimpArgs false
set_option linter.unusedVariables false
set_option linter.unnecessarySimpa false
set_option maxRecDepth 8000
set_option maxHeartbeats 1000000
namespace Go.Proofs.YtpkeilhilpogiaaGreat
open Go.Esp
theorem F.bld60 : Bld Tryz.prog 60 [[idSeg 0], [.one (.int .u64 0), .one (.bool false), .one (.string ⟨#[]⟩), .one (.slice none 0 0)]] := by rw [idSeg0]; exact ⟨by kernel_rfl, by kernel_rfl⟩
theorem F.ok122 : okFn Tryz.prog 122 = true := by kernel_rfl
theorem F.zero29 : zeroOf Tryz.prog 29 = some (aggV [idSeg 0]) := by rw [idSeg0]; kernel_rfl

theorem brow_ok (M : Mem) (bm : Nat) (m : PM CellV) (om : Obj) (hom : pmO CellV.enc om m) (hmo : ∀ p ∈ m, CellV.ok M p.2) (gt : FuncId) (S : List Hd) (hS : StOk S) (hpm : (mpl m).Perm S) : Fh Tryz.prog 114 [aggV [.one (.map (some bm)), .one (.func (.func gt) #[] #[])]] M [(bm, om)] (fun M' v Hout => Hout = [] ∧ StE M' v (fullR S)) := by
  have hms : m.length = S.length := by have := hpm.length_eq; simpa [mpl] using this
  refine fh_enter Tryz.func114 rfl Tryz.ntmps114 rfl ?_; intro H
  refine C_seq ?_
  refine C_region (l := [0, 1, 2]) rfl ?_
  refine Y_box ?_; intro b1
  iterate 2 refine Y_assign ?_
  refine XD_end ?_
  refine K_then ?_
  refine Y_pk [3, 2, 1] ?_
  iterate 2 refine C_seq ?_
  refine C_region (l := [0, 1, 2, 3]) rfl ?_
  refine Y_fieldAddr F.foff151_0 ?_
  refine Y_load F.lay148 ?_
  refine X_len_mapP rfl rfl rfl rfl Tryz.underlying148 (by repeat first | exact List.Mem.head _ | refine List.Mem.tail _ ?_ | refine List.mem_append_right _ ?_) hom rfl ?_
  refine Y_cmp ?_
  refine XD_end ?_
  refine K_then ?_
  refine Y_pk [10, 3, 2, 1] ?_
  refine C_cond rfl (fun hc2 => ?_) (fun hc2 => ?_)
  ·replace hc2 := dT hc2
   refine C_seq ?_
   refine C_region (l := [0, 1]) rfl ?_
   iterate 2 refine Y_assign ?_
   refine XD_end ?_
   refine K_then ?_
   refine Y_pk [3, 2, 1] ?_
   refine C_ret ?_
   refine K_ret ?_
   refine K_end (.inr rfl) (.tmp rfl (.tmp rfl .nil)) (fun w hw => ?_)
   refine ⟨_, M, [], rfl, Mem.le.refl M, hw.c, rfl, ?_⟩
   rw [show fullR S = ([], 12) from if_pos (by omega)]
   exact StE.nil
  ·replace hc2 := dF hc2
   refine C_skip ?_
   refine K_then ?_
   refine Y_pk [3, 2, 1] ?_
   refine C_seq ?_
   refine C_region (l := [0]) rfl ?_
   refine Y_assign ?_
   refine XD_end ?_
   refine K_then ?_
   iterate 2 refine C_seq ?_
   refine C_region (l := [0, 1, 2]) rfl ?_
   refine Y_fieldAddr F.foff151_0 ?_
   refine Y_load F.lay148 ?_
   refine X_rangeP rfl rfl rfl Tryz.underlying148 (by repeat first | exact List.Mem.head _ | refine List.Mem.tail _ ?_ | refine List.mem_append_right _ ?_) hom rfl ?_; intro r1 oi1 hit1
   refine XD_end ?_
   refine K_then ?_
   refine Y_pk [13, 4, 3, 2] ?_
   refine C_block ?_
   refine Y_pk [4, 13, 3, 2] ?_
   refine C_loopO (Hin := [(r1, oi1)]) (.succ .zero) (by repeat first | exact Rem.here _ | exact Rem.two | apply Rem.skip | apply Rem.over) (fun (k : Nat) M1 h1 z => ∃ (sv : PM CellV) (oi : Obj) (v : Value) (hs : Hp), M1 = M ∧ z = [(4, v)] ∧ k = sv.length ∧ itO CellV.enc bm oi om m sv ∧ OSl 60 24 v hs ((sv.map mkH).map HeldV.segs) ∧ h1 = (r1, oi) :: hs) (fun k => m.length - k) (0) (⟨[], oi1, _, [], rfl, rfl, rfl, hit1, OSl.nil, rfl⟩) ?_
   rintro k M1 h1 z hm1 ⟨sv, oi, v0, hs, hM1, rfl, hk, hit, ho, rfl⟩
   subst hM1
   obtain ⟨ad0, cp0, rfl⟩ := ho.valL
   have hsl := hit.len
   have hml : ((sv.map mkH).map HeldV.segs).length = (sv.map mkH).length := List.length_map ..
   have hml2 : (sv.map mkH).length = sv.length := List.length_map ..
   refine C_seq ?_
   refine C_region (l := [0, 1]) rfl ?_
   refine X_nextP rfl rfl rfl (by repeat first | exact List.Mem.head _ | refine List.Mem.tail _ ?_ | refine List.mem_append_right _ ?_) (by repeat first | exact List.Mem.head _ | refine List.Mem.tail _ ?_ | refine List.mem_append_right _ ?_) hit rfl ?_ ?_
   ·intro p oi2 hp hit2
    obtain ⟨pk, ⟨p_v, p_h, p_s, ⟨p_a, p_c, p_l⟩⟩⟩ := p
    refine ⟨_, (by repeat first | exact Upd.head | apply Upd.tail | apply Upd.over), ?_⟩
    refine Y_extract ?_
    refine XD_end ?_
    refine K_then ?_
    refine C_seq ?_
    refine C_true rfl ?_
    refine C_skip ?_
    refine K_then ?_
    refine C_block ?_
    refine C_seq ?_
    refine C_region (l := [0, 1, 2, 3, 4, 5, 6]) rfl ?_
    refine X_entryP rfl rfl rfl (by repeat first | exact List.Mem.head _ | refine List.Mem.tail _ ?_ | refine List.mem_append_right _ ?_) (by repeat first | exact List.Mem.head _ | refine List.Mem.tail _ ?_ | refine List.mem_append_right _ ?_) hit2 rfl ?_
    refine Y_extract ?_
    refine XD_is 17 rfl (show keyV pk = aggV [idSeg pk] from rfl) ?_
    refine Y_extract ?_
    refine Y_alloc F.zero29 ?_; intro b3
    refine Y_alloc F.zero37 ?_; intro b4
    refine Y_store F.lay29 ?_
    refine Y_store F.lay37 ?_
    refine XD_end ?_
    refine K_then ?_
    refine C_region (l := [0, 1, 2, 3, 4, 5, 6]) rfl ?_
    refine Y_move ?_
    refine Y_load F.lay29 ?_
    refine Y_load F.lay37 ?_
    refine X_build rfl rfl F.bld60 (.cons rfl (by constructor) (.cons rfl (by constructor) .nil)) rfl rfl ?_
    refine X_buildSliceF rfl rfl F.elem23 F.zero60 rfl rfl (.cons rfl (by constructor) .nil) rfl rfl (by simp only [List.map_cons, List.map_nil] <;> rfl) rfl ?_; intro b5 hob6
    refine X_append (m := 1000000) rfl rfl rfl rfl rfl F.elem23 F.zero60 (by exact agg_size rfl) rfl (by assumption) (by repeat first | exact Rem.here _ | exact Rem.two | apply Rem.skip | apply Rem.over) (Src.own hob6.lens (by (refine rows_one1 ?_; (repeat (first | exact flat_nil | refine flat_id ?_ | (refine flat_one ?_ ?_; rfl))); done)) rfl (by repeat first | exact List.Mem.head _ | refine List.Mem.tail _ ?_ | refine List.mem_append_right _ ?_)) (by (simp; omega)) (by decide) rfl ?_; intro v9 hs8 ho7; obtain ⟨adv9, cpv9, rfl⟩ := ho7.val
    refine Y_assign ?_
    refine XD_end ?_
    refine K_out ?_
    refine K_roundO (a' := [(4, _)]) (k + 1) (((r1, oi2) :: hs8)) (.cons (k := 4) rfl (.cons (k := 13) rfl (.cons (k := 3) rfl (.cons (k := 2) rfl (.nil))))) (by exact Mem.le.refl _) (fun w hw => by first | exact hw | exact hw.c) ?_ ?_
    ·refine ⟨sv ++ [(pk, (⟨p_v, p_h, p_s, ⟨p_a, p_c, p_l⟩⟩ : CellV))], oi2, _, _, rfl, rfl, by simp [hk], hit2, ?_, rfl⟩
     rw [List.map_append, List.map_append]
     exact ho7
    ·have h9 := hit2.len; simp at h9; omega
   ·intro hperm
    refine Y_extract ?_
    refine XD_end ?_
    refine K_then ?_
    refine C_seq ?_
    refine C_false rfl ?_
    refine C_exit ?_
    iterate 2 refine K_exit ?_
    refine K_hit ?_
    refine K_then ?_
    refine Y_pk [4, 3, 2] ?_
    refine C_seq ?_
    refine C_regionR (l := [0, 1]) (Hin := hs) (by repeat first | exact Rem.here _ | exact Rem.two | apply Rem.skip | apply Rem.over) rfl ?_
    refine Y_move ?_
    refine X_fhR rfl rfl F.ok122 rfl (SortH_ok _ ad0 cp0 (sv.map mkH) hs ho (by omega)) (by repeat first | exact Rem.here _ | exact Rem.two | apply Rem.skip | apply Rem.over) (fun _ _ _ hm hw => (hw.lower (by exact hm)).c) (putE_some rfl) ?_
    rintro _ M3 hs9 hm3 ⟨hM3, rfl, l9, hp9, hsw9, ho9⟩; subst M3
    refine XD_end ?_
    refine K_then ?_
    refine Y_pk [4, 3, 2] ?_
    refine C_seq ?_
    refine C_region (l := [0, 1, 2]) rfl ?_
    refine Y_move ?_
    iterate 2 refine Y_assign ?_
    refine XD_end ?_
    refine K_then ?_
    refine Y_pk [3, 2] ?_
    refine C_ret ?_
    refine K_end (.inr rfl) (.tmp rfl (.tmp rfl .nil)) (fun w hw => ?_)
    have hw9 : St _ (hs9 ++ H) w := hw.c
    obtain ⟨M9, s9, g1, g2, g3, g4, g5⟩ := ho9.freezeK hw9
    refine ⟨_, M9, [], rfl, g1, g2, rfl, ?_⟩
    rw [show fullR S = (S, 0) from if_neg (by omega)]
    refine ⟨s9, congrArg (fun v => Value.tuple #[v, .int .i64 0]) g3, ?_, g5, fun h hh => ?_⟩
    ·rw [g4]
     refine row_sorted hsw9 ?_ hS.2
     have h1 : (pls l9).Perm (pls (sv.map mkH)) := hp9.map _
     rw [mkH_pl] at h1
     exact (h1.trans (hperm.map _)).trans hpm
    ·rw [g4] at hh
     obtain ⟨p9, hp8, rfl⟩ := List.mem_map.1 (hp9.mem_iff.1 hh)
     exact ⟨(hmo _ (hit.mem _ hp8)).mono g1⟩

end Go.Proofs.YtpkeilhilpogiaaGreat
/-
  A cell put into a store.
-/
set_option linter.unusedSimpArgs false
set_option linter.unusedVariables false
set_option linter.unnecessarySimpa false
set_option maxRecDepth 8000
set_option maxHeartbeats 1000000
namespace Go.Proofs.YtpkeilhilpogiaaGreat
open Go.Esp
theorem F.ok112 : okFn Tryz.prog 112 = true := by kernel_rfl
theorem F.ok113 : okFn Tryz.prog 113 = true := by kernel_rfl
theorem F.ok114 : okFn Tryz.prog 114 = true := by kernel_rfl
theorem F.ok38 : okFn Tryz.prog 38 = true := by kernel_rfl
theorem F.zero23 : zeroOf Tryz.prog 23 = some ((.slice none 0 0)) := by kernel_rfl

theorem bofF_ok (M : Mem) (a : Option Addr) (c : Nat) (all : List (Sl HeldV)) (hs1 hs2 : Hp) (two : Cel → Cel → Cel) (gt : FuncId) (hgt : okFn Tryz.prog gt = true) (htwo : TwoOk Tryz.prog gt two) (ho : OSl 23 1 (.slice a all.length c) hs2 (all.map fun x => ([.one (Sl.val x)] : Segs))) (hfz : ∀ (w : World) (H : Hp), St M (hs1 ++ H) w → ∃ M1, M.le M1 ∧ St M1 H w ∧ ∀ s ∈ all, SlK M1 HeldV.segs 24 s ∧ ∀ h ∈ s.l, HeldV.ok M1 h) (hcel : ∀ s ∈ all, ∀ h ∈ s.l, IsCel h.cell.pl) (ht : Keeps2 two) : Fh Tryz.prog 112 [.func (.func gt) #[] #[], .slice a all.length c] M (hs2 ++ hs1) (fun M' v Hout => ∃ (bm : Nat) (om : Obj) (m : PM CellV), v = aggV [.one (.map (some bm)), .one (.func (.func gt) #[] #[])] ∧ Hout = [(bm, om)] ∧ pmO CellV.enc om m ∧ (mpl m).Perm (ofS two (all.map fun s => pls s.l)) ∧ ∀ p ∈ m, CellV.ok M' p.2) := fun H w hw => by
  have hw1 : St M (hs1 ++ (hs2 ++ H)) w := hw.perm0 (by rw [List.append_assoc]; exact (List.perm_append_comm_assoc hs2 hs1 H))
  obtain ⟨M1, h1, h2, h3⟩ := hfz w _ hw1
  obtain ⟨M2, h4, h5, h6⟩ := ho.frz h2
  exact (bof_ok M2 ⟨a, c, all⟩ two gt hgt htwo h6 (fun s hs => ⟨(h3 s hs).1.mono h4, fun h hh => ((h3 s hs).2 h hh).mono h4⟩) hcel ht H w h5).mono fun e w2 ⟨v, M3, Ho, g1, g2, g3, g4⟩ => ⟨v, M3, Ho, g1, (h1.trans h4).trans g2, g3, g4⟩
theorem Put_ok (M : Mem) (s : (Sl HeldV)) (key : Plc) (c : CellV) (hs0 : SlK M HeldV.segs 24 s) (hs1 : ∀ y ∈ (s).l, HeldV.ok M y) (hc2 : CellV.ok M c) : Esp.Fn Tryz.prog 94 [Sl.val s, aggV [idSeg key], c.enc] M (fun M' v => StE M' v (putR (pls s.l) key c.pl)) := by
  obtain ⟨s_a, s_c, s_l⟩ := s
  obtain ⟨c_version, c_has, c_val, ⟨c_marks_a, c_marks_c, c_marks_l⟩⟩ := c
  have k_s : SlK M HeldV.segs 24 ⟨s_a, s_c, s_l⟩ := hs0
  have s_s : SlM M s_a (s_l.map HeldV.segs) 24 := k_s.h1
  have n_s : (s_l.map HeldV.segs).length = s_l.length := List.length_map ..
  have m_s : s_l.length ≤ 9223372036854775807 := k_s.h2
  have c_s : s_l.length ≤ s_c := k_s.h3
  have l_s : ∀ y ∈ s_l, HeldV.ok M y := hs1
  have k_c_marks : SlK M MarkV.segs 6 ⟨c_marks_a, c_marks_c, c_marks_l⟩ := hc2.h0
  have s_c_marks : SlM M c_marks_a (c_marks_l.map MarkV.segs) 6 := k_c_marks.h1
  have n_c_marks : (c_marks_l.map MarkV.segs).length = c_marks_l.length := List.length_map ..
  have m_c_marks : c_marks_l.length ≤ 9223372036854775807 := k_c_marks.h2
  have c_c_marks : c_marks_l.length ≤ c_marks_c := k_c_marks.h3
  show Esp.Fn _ _ _ _ (fun M' v => StE M' v (putR (pls s_l) key (CellV.pl ⟨c_version, c_has, c_val, ⟨c_marks_a, c_marks_c, c_marks_l⟩⟩)))
  refine fn_enter Tryz.func94 rfl Tryz.ntmps94 rfl ?_; intro H
  refine C_seq ?_
  refine C_region (l := [0, 1, 2, 3]) rfl ?_
  refine Y_box ?_; intro b1
  refine Y_box ?_; intro b2
  iterate 2 refine Y_assign ?_
  refine XD_end ?_
  refine K_then ?_
  refine Y_pk [7, 6, 5, 4, 0] ?_
  iterate 2 refine C_seq ?_
  refine C_region (l := [0, 1, 2, 3, 4, 5, 6, 7]) rfl ?_
  refine Y_move ?_
  refine X_fs rfl rfl F.ok38 rfl (StIs_ok _ ⟨_, _, _⟩ (by assumption) (by assumption)) rfl ?_
  rintro _ rfl
  refine Y_not ?_
  refine Y_move ?_
  refine XD_part 11 rfl (fun hc3 => ?_) (fun hc3 => ?_)
  ·replace hc3 := nT hc3
   simp only [AnswerV.eta, MarkV.eta, CellV.eta, HeldV.eta, WaitV.eta, ServerV.eta, PeerV.eta, OpV.eta, ParcelV.eta, PostV.eta, WorkerV.eta] at hc3
   iterate 3 refine Y_skip ?_
   refine Y_pick ?_
   refine XD_end ?_
   refine K_then ?_
   refine Y_pk [15, 7, 6, 5, 4, 0] ?_
   refine C_true rfl ?_
   refine C_seq ?_
   refine C_region (l := [0, 1]) rfl ?_
   iterate 2 refine Y_assign ?_
   refine XD_end ?_
   refine K_then ?_
   refine Y_pk [7, 6, 5, 4, 0] ?_
   refine C_ret ?_
   refine K_ret ?_
   refine K_end (.inr rfl) (.tmp rfl (.tmp rfl .nil)) (fun w hw => ?_)
   refine ⟨_, M, rfl, Mem.le.refl M, hw.c, ?_⟩
   rw [show putR (pls s_l) key (CellV.pl ⟨c_version, c_has, c_val, ⟨c_marks_a, c_marks_c, c_marks_l⟩⟩) = ([], 1) from if_neg (by rintro ⟨g1, g2⟩; contradiction)]
   exact StE.nil
  ·replace hc3 := nF hc3
   simp only [AnswerV.eta, MarkV.eta, CellV.eta, HeldV.eta, WaitV.eta, ServerV.eta, PeerV.eta, OpV.eta, ParcelV.eta, PostV.eta, WorkerV.eta] at hc3
   refine Y_load F.lay37 ?_
   refine X_fs rfl rfl F.ok47 rfl (CelIs_ok _ ⟨c_version, c_has, c_val, ⟨c_marks_a, c_marks_c, c_marks_l⟩⟩ hc2) rfl ?_
   rintro _ rfl
   refine Y_not ?_
   refine Y_pick ?_
   refine XD_end ?_
   refine K_then ?_
   refine Y_pk [15, 7, 6, 5, 4, 0] ?_
   refine C_cond rfl (fun hc4 => ?_) (fun hc4 => ?_)
   ·replace hc4 := nT hc4
    refine C_seq ?_
    refine C_region (l := [0, 1]) rfl ?_
    iterate 2 refine Y_assign ?_
    refine XD_end ?_
    refine K_then ?_
    refine Y_pk [7, 6, 5, 4, 0] ?_
    refine C_ret ?_
    refine K_ret ?_
    refine K_end (.inr rfl) (.tmp rfl (.tmp rfl .nil)) (fun w hw => ?_)
    refine ⟨_, M, rfl, Mem.le.refl M, hw.c, ?_⟩
    rw [show putR (pls s_l) key (CellV.pl ⟨c_version, c_has, c_val, ⟨c_marks_a, c_marks_c, c_marks_l⟩⟩) = ([], 1) from if_neg (by rintro ⟨g1, g2⟩; contradiction)]
    exact StE.nil
   ·replace hc4 := nF hc4
    refine C_skip ?_
    refine K_then ?_
    refine Y_pk [7, 6, 5, 4, 0] ?_
    refine C_seq ?_
    have hst0 : IsSt (pls s_l) := by assumption
    have hcc : IsCel (CellV.pl ⟨c_version, c_has, c_val, ⟨c_marks_a, c_marks_c, c_marks_l⟩⟩) := by assumption
    refine C_region (l := [0, 1, 2, 3, 4, 5, 6, 7, 8, 9, 10, 11]) rfl ?_
    refine Y_move ?_
    refine Y_load F.lay29 ?_
    refine Y_load F.lay37 ?_
    refine X_build rfl rfl F.bld60 (.cons rfl (by constructor) (.cons rfl (by constructor) .nil)) rfl rfl ?_
    refine X_buildSliceF rfl rfl F.elem23 F.zero60 rfl rfl (.cons rfl (by constructor) .nil) rfl rfl (by simp only [List.map_cons, List.map_nil] <;> rfl) rfl ?_; intro b5 hob6
    refine X_buildSliceF rfl rfl F.elem159 F.zero23 rfl rfl (.cons rfl (by constructor) (.cons rfl (by constructor) .nil)) rfl rfl (by simp only [List.map_cons, List.map_nil] <;> rfl) rfl ?_; intro b7 hob8
    have hcel : ∀ s ∈ ([⟨s_a, s_c, s_l⟩, ⟨some ⟨b5, 0, none⟩, 1, [⟨key, ⟨c_version, c_has, c_val, ⟨c_marks_a, c_marks_c, c_marks_l⟩⟩⟩]⟩] : List (Sl HeldV)), ∀ h ∈ s.l, IsCel h.cell.pl := fun s hs h hh => by
     rcases List.mem_cons.1 hs with rfl | hs
     ·exact hst0.2.1 _ (List.mem_map_of_mem hh)
     ·obtain rfl := List.mem_singleton.1 hs
      obtain rfl := List.mem_singleton.1 hh
      exact hcc
    have hfz : ∀ (w : World) (H : Hp), St M (_ ++ H) w → ∃ M1, M.le M1 ∧ St M1 H w ∧ ∀ s ∈ ([⟨s_a, s_c, s_l⟩, ⟨some ⟨b5, 0, none⟩, 1, [⟨key, ⟨c_version, c_has, c_val, ⟨c_marks_a, c_marks_c, c_marks_l⟩⟩⟩]⟩] : List (Sl HeldV)), SlK M1 HeldV.segs 24 s ∧ ∀ h ∈ s.l, HeldV.ok M1 h := fun w H hw => by
     obtain ⟨M1, j1, j2, j3⟩ := (show OSl 60 24 _ _ ([(⟨key, ⟨c_version, c_has, c_val, ⟨c_marks_a, c_marks_c, c_marks_l⟩⟩⟩ : HeldV)].map HeldV.segs) from hob6).frz hw
     refine ⟨M1, j1, j2, fun s hs => ?_⟩
     rcases List.mem_cons.1 hs with rfl | hs
     ·exact ⟨k_s.mono j1, fun h hh => (l_s h hh).mono j1⟩
     ·obtain rfl := List.mem_singleton.1 hs
      exact ⟨j3, fun h hh => by obtain rfl := List.mem_singleton.1 hh; exact ⟨hc2.mono j1⟩⟩
    refine X_fhR2 rfl rfl F.ok112 rfl (bofF_ok _ _ _ [⟨s_a, s_c, s_l⟩, ⟨some ⟨b5, 0, none⟩, 1, [⟨key, ⟨c_version, c_has, c_val, ⟨c_marks_a, c_marks_c, c_marks_l⟩⟩⟩]⟩] _ _ lastT 113 F.ok113 last_ok2 (show OSl 23 1 _ _ ([(⟨s_a, s_c, s_l⟩ : Sl HeldV), ⟨some ⟨b5, 0, none⟩, 1, [⟨key, ⟨c_version, c_has, c_val, ⟨c_marks_a, c_marks_c, c_marks_l⟩⟩⟩]⟩].map fun x => ([.one (Sl.val x)] : Segs)) from hob8) hfz hcel lastT_keeps) (by repeat first | exact Rem.here _ | exact Rem.two | apply Rem.skip | apply Rem.over) (by repeat first | exact Rem.here _ | exact Rem.two | apply Rem.skip | apply Rem.over) (by rintro v M9 Hout w hm _ hw; exact (hw.lower hm).c) (putE_some rfl) ?_
    rintro _ M4 _ hm4 ⟨bm, om, om_m, rfl, rfl, hom, hpm, hmo⟩
    obtain ⟨S9, hS⟩ : ∃ S, S = ofS lastT [pls s_l, [⟨key, CellV.pl ⟨c_version, c_has, c_val, ⟨c_marks_a, c_marks_c, c_marks_l⟩⟩⟩]] := ⟨_, rfl⟩
    have hS9 : StOk S9 := by rw [hS]; exact ofS_ok lastT_keeps (fun s hs x hx => by
      rcases List.mem_cons.1 hs with rfl | hs
      ·exact hst0.2.1 x hx
      ·obtain rfl := List.mem_singleton.1 hs
       obtain rfl := List.mem_singleton.1 hx
       exact hcc)
    replace hpm : (mpl om_m).Perm S9 := by rw [hS]; exact hpm
    refine X_fhR rfl rfl F.ok114 rfl (brow_ok _ bm om_m om hom hmo _ S9 hS9 hpm) (by repeat first | exact Rem.here _ | exact Rem.two | apply Rem.skip | apply Rem.over) (fun _ _ _ hm hw => (hw.lower (by exact Mem.le.trans (by assumption) hm)).c) (putE_some rfl) ?_
    rintro _ M5 _ hm5 ⟨rfl, ⟨q_a, q_c, q_l⟩, rfl, g9, k9, o9⟩
    iterate 2 refine Y_extract ?_
    iterate 2 refine Y_assign ?_
    refine XD_end ?_
    refine K_then ?_
    refine Y_pk [7, 6] ?_
    refine C_ret ?_
    refine K_end (.inr rfl) (.tmp rfl (.tmp rfl .nil)) (fun w hw => ?_)
    refine ⟨_, M5, rfl, hm4.trans hm5, hw.c, ?_⟩
    rw [show putR (pls s_l) key (CellV.pl ⟨c_version, c_has, c_val, ⟨c_marks_a, c_marks_c, c_marks_l⟩⟩) = fullR S9 from by rw [hS]; exact putR_yes hst0 hcc]
    exact ⟨⟨q_a, q_c, q_l⟩, rfl, g9, k9, o9⟩

end Go.Proofs.YtpkeilhilpogiaaGreat
/-
  A cell put into a store, as the document has it.
-/
set_option linter.unusedSimpArgs false
set_option linter.unusedVariables false
set_option linter.unnecessarySimpa false
set_option maxRecDepth 8000
set_option maxHeartbeats 1000000
namespace Go.Proofs.YtpkeilhilpogiaaGreat
open Go.Esp
theorem F.ok20 : okFn Tryz.prog 20 = true := by kernel_rfl
end Go.Proofs.YtpkeilhilpogiaaGreat
/-
  Stores of a circle, in plain Lean: who keeps what; healed ones.
-/
set_option linter.unusedSimpArgs false
set_option linter.unusedVariables false
set_option linter.unnecessarySimpa false
namespace Go.Esp
def plss (l : List (Sl HeldV)) : List (List Hd) := l.map fun s => pls s.l
theorem plss_len (l : List (Sl HeldV)) : (plss l).length = l.length := List.length_map ..
theorem plss_at {l : List (Sl HeldV)} {k : Nat} (hk : k < l.length) : (plss l)[k]'(by rw [plss_len]; exact hk) = pls l[k].l := by unfold plss; rw [List.getElem_map]
/-- Are stores a circle's? -/
def CircSt (l : List PeerV) (r : Int) (all : List (List Hd)) : Prop := IsCircle l ∧ (1 ≤ r ∧ r ≤ 8) ∧ all.length = l.length ∧ ∀ s ∈ all, IsSt s
instance (l : List PeerV) (r : Int) (all : List (List Hd)) : Decidable (CircSt l r all) := by unfold CircSt; exact inferInstance
/-- Has a peer to keep a key? -/
def keepsR (l : List PeerV) (r i : Int) (key : Plc) : Bool := decide (i ∈ (copiesR l key r).1)
def healR (l : List PeerV) (r : Int) (all : List (List Hd)) : List (List Hd) × Int :=
  if CircSt l r all then
    if 2000 < (ofS mergedT all).length then ([], 12)
    else ((List.range l.length).map fun i : Nat => (ofS mergedT all).filter fun h => keepsR l r (i : Int) h.key, 0)
  else ([], 1)
/-- Is each cell kept by just those that have to? -/
def WholeOk (l : List PeerV) (r : Int) (all : List (List Hd)) : Prop := ∀ s ∈ all, ∀ h ∈ s, ∀ n (hn : n < all.length), (findS all[n] h.key).isSome = keepsR l r (n : Int) h.key ∧ ∀ c, findS all[n] h.key = some c → c = h.cell
instance (l : List PeerV) (r : Int) (all : List (List Hd)) : Decidable (WholeOk l r all) := by unfold WholeOk; exact inferInstance
def wholeR (l : List PeerV) (r : Int) (all : List (List Hd)) : Prop := CircSt l r all ∧ WholeOk l r all
instance (l : List PeerV) (r : Int) (all : List (List Hd)) : Decidable (wholeR l r all) := by unfold wholeR; exact inferInstance
/-- Stores handed back, and an error. -/
def AllE (M : Mem) (v : Value) (r : List (List Hd) × Int) : Prop := ∃ s : Sl (Sl HeldV), v = .tuple #[s.val, .int .i64 r.2] ∧ plss s.l = r.1 ∧ SlK M (fun x => [.one (Sl.val x)]) 1 s ∧ ∀ y ∈ s.l, SlK M HeldV.segs 24 y ∧ ∀ h ∈ y.l, HeldV.ok M h
theorem AllE.nil {M : Mem} {e : Int} : AllE M (.tuple #[.slice none 0 0, .int .i64 e]) ([], e) := ⟨⟨none, 0, []⟩, rfl, rfl, SlK.nil, fun h hh => by cases hh⟩
end Go.Esp
/-
  Operations and parcels, in plain Lean.
-/
set_option linter.unusedSimpArgs false
set_option linter.unusedVariables false
set_option linter.unnecessarySimpa false
namespace Go.Esp
def IsOp (o : OpV) : Prop := (0 ≤ o.client ∧ o.client ≤ 63) ∧ ((o.kind = 1 ∧ o.version = 0 ∧ o.val = ⟨#[]⟩) ∨ (o.kind = 4 ∧ o.val = ⟨#[]⟩) ∨ (o.kind = 2 ∧ o.version = 0 ∧ o.val.size ≤ 2048) ∨ (o.kind = 3 ∧ o.val.size ≤ 2048))
instance (o : OpV) : Decidable (IsOp o) := by unfold IsOp; exact inferInstance
def OkAnswer (a : AnswerV) : Prop := (a.code = 0 ∨ a.code = 8 ∨ a.code = 7 ∨ a.code = 9) ∧ a.val.size ≤ 2048 ∧ (a.has = true ∨ a.val = ⟨#[]⟩)
instance (a : AnswerV) : Decidable (OkAnswer a) := by unfold OkAnswer; exact inferInstance
def Bare (c : Cel) : Prop := c.version = 0 ∧ c.has = false ∧ c.val = ⟨#[]⟩ ∧ c.marks = []
instance (c : Cel) : Decidable (Bare c) := by unfold Bare; exact inferInstance
theorem bare_zero {c : Cel} : Bare c ↔ c = Cel.zero := by
  obtain ⟨v, h, s, m⟩ := c
  simp only [Bare, Cel.zero, Cel.mk.injEq]
structure Prc where
  kind : Int
  epoch : Int
  key : Plc
  op : OpV
  answer : AnswerV
  serial : Int
  cell : Cel
  deriving DecidableEq
def ParcelV.pl (p : ParcelV) : Prc := ⟨p.kind, p.epoch, p.key, p.op, p.answer, p.serial, p.cell.pl⟩
def IsPrc (p : Prc) : Prop :=
  (p.kind = 1 ∧ IsOp p.op ∧ p.answer = AnswerV.zero ∧ p.serial = 0 ∧ Bare p.cell) ∨
  (p.kind = 2 ∧ p.key = 0 ∧ p.op = ⟨p.op.client, p.op.req, 0, 0, ⟨#[]⟩⟩ ∧ 0 ≤ p.op.client ∧ p.op.client ≤ 63 ∧ OkAnswer p.answer ∧ p.serial = 0 ∧ Bare p.cell) ∨
  (p.kind = 3 ∧ p.op = OpV.zero ∧ p.answer = AnswerV.zero ∧ IsCel p.cell) ∨
  (p.kind = 4 ∧ p.key = 0 ∧ p.op = OpV.zero ∧ p.answer = AnswerV.zero ∧ Bare p.cell)
instance (p : Prc) : Decidable (IsPrc p) := by unfold IsPrc; exact inferInstance
theorem empty_size : (⟨#[]⟩ : ByteArray).size = 0 := rfl
/-! What an operation does to a cell. -/
def markC (c : Cel) (o : OpV) (a : AnswerV) : List MarkV := putM c.marks ⟨o.client, o.req, a⟩
def goesC (c : Cel) (o : OpV) : Cel × AnswerV × Bool × Int :=
  if o.kind ≠ 2 ∧ o.version ≠ c.version then (⟨c.version, c.has, c.val, markC c o ⟨8, c.version, c.has, ⟨#[]⟩⟩⟩, ⟨8, c.version, c.has, ⟨#[]⟩⟩, false, 0)
  else (⟨w64 (c.version + 1), (!decide (o.kind = 4)), o.val, markC c o ⟨0, w64 (c.version + 1), (!decide (o.kind = 4)), ⟨#[]⟩⟩⟩, ⟨0, w64 (c.version + 1), (!decide (o.kind = 4)), ⟨#[]⟩⟩, true, 0)
def doC (c : Cel) (o : OpV) : Cel × AnswerV × Bool × Int :=
  if IsCel c ∧ IsOp o then
    if o.kind = 1 then (c, ⟨0, c.version, c.has, c.val⟩, false, 0)
    else match ofM c.marks o.client with
      | some m => if m.req = o.req then (c, m.answer, false, 0) else if o.req < m.req then (c, ⟨9, 0, false, ⟨#[]⟩⟩, false, 0) else goesC c o
      | none => goesC c o
  else (Cel.zero, AnswerV.zero, false, 1)
theorem doC_no {c : Cel} {o : OpV} (h : ¬ (IsCel c ∧ IsOp o)) : doC c o = (Cel.zero, AnswerV.zero, false, 1) := if_neg h
theorem doC_get {c : Cel} {o : OpV} (h : IsCel c) (ho : IsOp o) (hk : o.kind = 1) : doC c o = (c, ⟨0, c.version, c.has, c.val⟩, false, 0) := by unfold doC; rw [if_pos ⟨h, ho⟩, if_pos hk]
theorem doC_is {c : Cel} {o : OpV} {m : MarkV} (h : IsCel c) (ho : IsOp o) (hk : ¬ o.kind = 1) (hm : ofM c.marks o.client = some m) : doC c o = if m.req = o.req then (c, m.answer, false, 0) else if o.req < m.req then (c, ⟨9, 0, false, ⟨#[]⟩⟩, false, 0) else goesC c o := by
  unfold doC; rw [if_pos ⟨h, ho⟩, if_neg hk, hm]
theorem doC_new {c : Cel} {o : OpV} (h : IsCel c) (ho : IsOp o) (hk : ¬ o.kind = 1) (hm : ofM c.marks o.client = none) : doC c o = goesC c o := by
  unfold doC; rw [if_pos ⟨h, ho⟩, if_neg hk, hm]
theorem doC_goes {c : Cel} {o : OpV} (h : IsCel c) (ho : IsOp o) (hk : ¬ o.kind = 1) (hm : ∀ m, ofM c.marks o.client = some m → m.req < o.req) : doC c o = goesC c o := by
  cases hf : ofM c.marks o.client with
  | none => exact doC_new h ho hk hf
  | some m => have := hm m hf; rw [doC_is h ho hk hf, if_neg (by omega), if_neg (by omega)]
theorem goesC_no {c : Cel} {o : OpV} (h : o.kind ≠ 2 ∧ o.version ≠ c.version) : goesC c o = (⟨c.version, c.has, c.val, markC c o ⟨8, c.version, c.has, ⟨#[]⟩⟩⟩, ⟨8, c.version, c.has, ⟨#[]⟩⟩, false, 0) := if_pos h
theorem goesC_yes {c : Cel} {o : OpV} (h : ¬ (o.kind ≠ 2 ∧ o.version ≠ c.version)) : goesC c o = (⟨w64 (c.version + 1), (!decide (o.kind = 4)), o.val, markC c o ⟨0, w64 (c.version + 1), (!decide (o.kind = 4)), ⟨#[]⟩⟩⟩, ⟨0, w64 (c.version + 1), (!decide (o.kind = 4)), ⟨#[]⟩⟩, true, 0) := if_neg h
theorem ofM_yes {l : List MarkV} (h : MarksOk l) {c : Int} (hi : isM l c = true) : ofM l c = some (l[atM l c]'(isM_lt hi)) := by rw [ofM_is h, dif_pos hi]
theorem ofM_not {l : List MarkV} (h : MarksOk l) {c : Int} (hi : isM l c = false) : ofM l c = none := by rw [ofM_is h, dif_neg (by simp [hi])]
/-- A cell, an answer, whether it rose, and an error, handed back. -/
def DoE (M : Mem) (v : Value) (r : Cel × AnswerV × Bool × Int) : Prop := ∃ c : CellV, v = .tuple #[c.enc, r.2.1.enc, .bool r.2.2.1, .int .i64 r.2.2.2] ∧ c.pl = r.1 ∧ CellV.ok M c
end Go.Esp
/-
  A store into a part of an element of a row of ours.
-/
set_option linter.unusedSimpArgs false
set_option linter.unusedVariables false
set_option linter.unnecessarySimpa false
namespace Go.Esp
section
variable {P : Program} {n : Sh} {ops : Array Oper} {Q : Exit → Act → World → Prop} {rest : List Nat} {M M' : Mem} {H H' H0 : Hp} {e : Env} {J S : World → Prop} {A : As} {i : Nat}
  {dst : Option Tmp} {d : Tmp} {op : Op} {ty : TypeId} {pos : String} {af : Array Edge} {gd : Option (Nat × Bool)}
theorem C_is {c : Code} {Qx : Exit → Act → World → Prop} {Sx : World → Prop} (s : Nat) {u v : Value} (hs : get e s = some u) (h : u = v) (hk : C P n c Qx Sx ((s, v) :: e)) : C P n c Qx Sx e := fun a w ha hw => hk a w (ha.more (h ▸ hs)) hw
/-- A case by what a slot has, which is asked again. -/
theorem C_part {c : Code} {Qx : Exit → Act → World → Prop} {Sx : World → Prop} (s : Nat) {b : Bool} (hs : get e s = some (.bool b)) (ht : b = true → C P n c Qx Sx ((s, .bool true) :: e)) (hf : b = false → C P n c Qx Sx ((s, .bool false) :: e)) : C P n c Qx Sx e := by
  cases b with
  | true => exact C_is s hs rfl (ht rfl)
  | false => exact C_is s hs rfl (hf rfl)
/-- A read of what stores of the region turn, all of which stand behind it. -/
theorem X_loadA {t : TypeId} {x : Operand} {b off m : Nat} {agg : Bool} {r r' : Segs} {T : TypeId} {v : Value} (hi : ops[i]? = some ⟨some d, .load t x, ty, pos, af, gd⟩) (hws : n.wrs.contains i = true) (hg : want ops e gd = some true)
    (hx : ev e x = some (.pointer (some ⟨b, off, none⟩))) (hb : (b, rowO r T) ∈ H) (hl : lay P t = some (agg, m)) (hs : Segs.sub r off m = some r') (hv : readAs agg r' = some v)
    (hd : Nat.ble (d + 1) n.sz = true) (hk : XD P n ops Q rest J ⟨M, H⟩ ((d, v) :: e)) : XD P n ops Q (i :: rest) J ⟨M, H⟩ e :=
  X_readA hi rfl hws hg (fun a' w ha hw => runs_of (by
    simp only [execOp, ha.ev hx]
    obtain ⟨h1, h2⟩ := Segs.sub_cells hs
    obtain ⟨_, _, _, _, h3⟩ := Segs.sub_spec hs
    have hw' : St M H w := hw
    exact run_v (run_loadAt' (hw'.own _ _ hb) hl h1 h3 hv))) (fun a ha => ha.put hd _) hk
theorem splice_part {X p m c q Y : List Value} (h : m.length = c.length) : (X ++ (p ++ (m ++ q)) ++ Y).take (X.length + p.length) ++ c ++ (X ++ (p ++ (m ++ q)) ++ Y).drop (X.length + p.length + c.length) = (X ++ (p ++ (m ++ q)) ++ Y).take X.length ++ (p ++ (c ++ q)) ++ (X ++ (p ++ (m ++ q)) ++ Y).drop (X.length + (p ++ (c ++ q)).length) := by
  have e1 : (X ++ (p ++ (m ++ q)) ++ Y) = (X ++ p) ++ (m ++ (q ++ Y)) := by simp
  have e2 : (X ++ (p ++ (m ++ q)) ++ Y) = (X ++ (p ++ (m ++ q))) ++ Y := rfl
  have t1 : (X ++ (p ++ (m ++ q)) ++ Y).take (X.length + p.length) = X ++ p := by
    rw [e1, ← List.length_append]; exact List.take_left
  have t2 : (X ++ (p ++ (m ++ q)) ++ Y).drop (X.length + p.length + c.length) = q ++ Y := by
    rw [e1, ← List.length_append, ← h, ← List.length_append, ← List.append_assoc]; exact List.drop_left
  have t3 : (X ++ (p ++ (m ++ q)) ++ Y).take X.length = X := by rw [List.append_assoc]; exact List.take_left
  have t4 : (X ++ (p ++ (m ++ q)) ++ Y).drop (X.length + (p ++ (c ++ q)).length) = Y := by
    have : X.length + (p ++ (c ++ q)).length = (X ++ (p ++ (m ++ q))).length := by simp [h]
    rw [this]; exact List.drop_left
  rw [t1, t2, t3, t4]; simp
theorem X_storeOF {t : TypeId} {x y : Operand} {b j sz off c m l : Nat} {agg : Bool} {T : TypeId} {q r u : Segs} {v : Value} {hs : Hp} {rows : List Segs} (hi : ops[i]? = some ⟨Option.none, .store t x y, ty, pos, af, gd⟩) (hg : want ops e gd = some true)
    (hx : ev e x = some (eptr (some ⟨b, 0, Option.none⟩) j sz off)) (hy : ev e y = some v) (hp : Parts v q) (hq : flat q) (hl : lay P t = some (agg, m)) (hn : Segs.len q = m) (ho : OSl T sz (.slice (some ⟨b, 0, Option.none⟩) l c) hs rows) (hH : Rem hs H H0) (hr : rows[j]? = some r) (hu : Segs.put r off q = some u)
    (hk : ∀ hs', OSl T sz (.slice (some ⟨b, 0, Option.none⟩) rows.length c) hs' (rows.set j u) → XD P n ops Q rest (St M (hs' ++ H0)) ⟨M, hs' ++ H0⟩ e) (hnw : n.wrs.contains i = false := by rfl) : XD P n ops Q (i :: rest) J ⟨M, H⟩ e := by
  refine X_mut hi rfl hg (fun a w ha hw => ?_) hnw
  obtain ⟨dd, it, hd, hit, hsz, hag⟩ := lay_spec hl
  obtain ⟨cur, rfl, rfl, hlr, hcap, hcm, hcs, htake⟩ := ho.inv
  have hst := hw.perm hH.perm
  have hb := hst.own b _ (List.mem_append_left _ (.head _))
  obtain ⟨hj, hrj⟩ := List.getElem?_eq_some_iff.1 hr
  obtain ⟨p, q', mm, hre, hue, hpo, hmm⟩ := Segs.put_spec hu
  have hrl : Segs.len r = sz := hlr r (by rw [← hrj]; exact List.getElem_mem hj)
  have hlen3 : Segs.len r = off + (m + Segs.len q') := by
    rw [← Segs.cells_length, hre, Segs.cells_append, Segs.cells_append, List.length_append, List.length_append, Segs.cells_length, Segs.cells_length, Segs.cells_length, hpo, hmm, hn]
  have hul : Segs.len u = sz := by
    rw [← Segs.cells_length, hue, Segs.cells_append, Segs.cells_append, List.length_append, List.length_append, Segs.cells_length, Segs.cells_length, Segs.cells_length, hpo, hn]; omega
  have hq1 : lens sz [u] := fun r' hr' => by rw [List.mem_singleton.1 hr']; exact hul
  have hjl : j * sz + sz ≤ rows.length * sz := by have := Nat.mul_le_mul_right sz (show j + 1 ≤ rows.length from hj); rwa [Nat.add_mul, Nat.one_mul] at this
  have hrc : rows.length * sz ≤ c * sz := Nat.mul_le_mul_right _ hcap
  have hql : (Segs.cells q).length = m := by rw [Segs.cells_length, hn]
  have h2 := run_storeCells_at P b (j * sz + off) T (Segs.cells q) 0 cur w hb (by omega) hq
  have ho' := rowSplice (T := T) (b := b) (k := j) hlr hq1 hcap hcm hcs htake (by simp; omega)
  have er : rows.take j ++ [u] ++ rows.drop (j + [u].length) = rows.set j u := by
    rw [List.set_eq_take_append_cons_drop, if_pos hj]; simp
  rw [er] at ho'
  simp only [rowsCells, List.append_nil] at ho'
  have hcur : cur.toList = rowsCells (rows.take j) ++ (Segs.cells p ++ (Segs.cells mm ++ Segs.cells q')) ++ (rowsCells (rows.drop (j + 1)) ++ cur.toList.drop (rows.length * sz)) := by
    have e0 : rows = rows.take j ++ r :: rows.drop (j + 1) := by
      rw [← hrj, List.getElem_cons_drop, List.take_append_drop]
    have e1 : rowsCells rows = rowsCells (rows.take j) ++ (Segs.cells r ++ rowsCells (rows.drop (j + 1))) := by
      conv => lhs; rw [e0]
      rw [rowsCells_append]; rfl
    conv => lhs; rw [← List.take_append_drop (rows.length * sz) cur.toList, htake, e1, hre, Segs.cells_append, Segs.cells_append]
    simp
  have hXl : (rowsCells (rows.take j)).length = j * sz := by
    rw [rowsCells_length (fun r' hr' => hlr r' (List.mem_of_mem_take hr')), List.length_take]
    congr 1; omega
  have hpl : (Segs.cells p).length = off := by rw [Segs.cells_length, hpo]
  have hml : (Segs.cells mm).length = (Segs.cells q).length := by rw [Segs.cells_length, Segs.cells_length, hmm]
  have hsp := splice_part (X := rowsCells (rows.take j)) (p := Segs.cells p) (m := Segs.cells mm) (c := Segs.cells q) (q := Segs.cells q') (Y := rowsCells (rows.drop (j + 1)) ++ cur.toList.drop (rows.length * sz)) hml
  rw [← hcur, hXl, hpl] at hsp
  have hcu : Segs.cells u = Segs.cells p ++ (Segs.cells q ++ Segs.cells q') := by rw [hue, Segs.cells_append, Segs.cells_append]
  rw [← hcu] at hsp
  rw [← hsp] at ho'
  have hr : (Instr.storeAt t (.pointer (some ⟨b, 0 + (j * sz + off), Option.none⟩)) v).run P w = .ok () (w.setRow b (cur.toList.take (j * sz + off) ++ Segs.cells q ++ cur.toList.drop (j * sz + off + (Segs.cells q).length)).toArray) := by
    unfold Instr.storeAt
    rw [Sem.run_bind]
    show (Result.ok _ w).andThen _ = _
    rw [Result.andThen_ok]
    unfold storeVar
    rw [Sem.run_bind, run_sizeOf' hit, Result.andThen_ok]
    have hs : v.cells.size = it.size := by rw [hp.cells, hsz]; simp [Segs.cells_length, hn]
    simp only [hs, ne_eq, not_true_eq_false, if_false]
    rw [hp.cells, Nat.zero_add]
    simpa using h2
  unfold Oper.does
  rw [eptr_some] at hx
  have : (execOp a.eval ⟨Option.none, .store t x y, ty, pos, af, gd⟩).run P w = .ok .skip (w.setRow b (cur.toList.take (j * sz + off) ++ Segs.cells q ++ cur.toList.drop (j * sz + off + (Segs.cells q).length)).toArray) := by
    simp only [execOp, ha.ev hx, ha.ev hy]
    rw [run_bind_ok hr]; rfl
  rw [this]
  refine ⟨⟨M, _⟩, e, ?_, ha, hk _ ho'⟩
  exact hst.upd .head (setRow_heap w b cur _ T _ hb) (fun c hc x hx => by rw [setRow_other w b c _ hc]; exact hx) (SameIO.refl _)
end
end Go.Esp
/-
  Operations and parcels.
-/
set_option linter.unusedSimpArgs false
set_option linter.unusedVariables false
set_option linter.unnecessarySimpa false
set_option maxRecDepth 8000
set_option maxHeartbeats 1000000
namespace Go.Proofs.YtpkeilhilpogiaaGreat
open Go.Esp
theorem F.bld31 : Bld Tryz.prog 31 [[.one (.int .i64 0)], [.one (.int .u64 0)], [.one (.int .i64 0)], [.one (.int .u64 0)], [.one (.string ⟨#[]⟩)]] := ⟨by kernel_rfl, by kernel_rfl⟩
theorem F.bld34 : Bld Tryz.prog 34 [[.one (.int .i64 0)], [.one (.int .u64 0)], [.one (.bool false)], [.one (.string ⟨#[]⟩)]] := ⟨by kernel_rfl, by kernel_rfl⟩
theorem F.elem121 : slOf Tryz.prog 121 = some (32, 1, 8) := by kernel_rfl
theorem F.foff31_0 : foff Tryz.prog 31 0 = some 0 := by kernel_rfl
theorem F.foff31_1 : foff Tryz.prog 31 1 = some 1 := by kernel_rfl
theorem F.foff31_2 : foff Tryz.prog 31 2 = some 2 := by kernel_rfl
theorem F.foff31_3 : foff Tryz.prog 31 3 = some 3 := by kernel_rfl
theorem F.foff31_4 : foff Tryz.prog 31 4 = some 4 := by kernel_rfl
theorem F.foff34_2 : foff Tryz.prog 34 2 = some 2 := by kernel_rfl
theorem F.foff39_0 : foff Tryz.prog 39 0 = some 0 := by kernel_rfl
theorem F.foff39_1 : foff Tryz.prog 39 1 = some 1 := by kernel_rfl
theorem F.foff39_2 : foff Tryz.prog 39 2 = some 2 := by kernel_rfl
theorem F.foff39_3 : foff Tryz.prog 39 3 = some 22 := by kernel_rfl
theorem F.foff39_4 : foff Tryz.prog 39 4 = some 27 := by kernel_rfl
theorem F.foff39_5 : foff Tryz.prog 39 5 = some 31 := by kernel_rfl
theorem F.foff39_6 : foff Tryz.prog 39 6 = some 32 := by kernel_rfl
theorem F.guard31 : Tryz.prog.eqGuardType Tryz.prog.depth 31 = false := by kernel_rfl
theorem F.guard34 : Tryz.prog.eqGuardType Tryz.prog.depth 34 = false := by kernel_rfl
theorem F.kinds31 : kindsOf Tryz.prog 20 31 = some [.i .i64, .i .u64, .i .i64, .i .u64, .s] := by kernel_rfl
theorem F.kinds34 : kindsOf Tryz.prog 20 34 = some [.i .i64, .i .u64, .b, .s] := by kernel_rfl
theorem F.lay31 : lay Tryz.prog 31 = some (true, 5) := by kernel_rfl
theorem F.ok106 : okFn Tryz.prog 106 = true := by kernel_rfl
theorem F.ok44 : okFn Tryz.prog 44 = true := by kernel_rfl
theorem F.ok45 : okFn Tryz.prog 45 = true := by kernel_rfl
theorem F.ok46 : okFn Tryz.prog 46 = true := by kernel_rfl
theorem F.ok81 : okFn Tryz.prog 81 = true := by kernel_rfl
theorem F.ok82 : okFn Tryz.prog 82 = true := by kernel_rfl
theorem F.zero31 : zeroOf Tryz.prog 31 = some (aggV [.one (.int .i64 0), .one (.int .u64 0), .one (.int .i64 0), .one (.int .u64 0), .one (.string ⟨#[]⟩)]) := by kernel_rfl
theorem F.zero32 : zeroOf Tryz.prog 32 = some ((.int .i64 0)) := by kernel_rfl

theorem IsOp_ok (M : Mem) (o : OpV) : Fs Tryz.prog 44 [o.enc] M (fun v => v = Value.bool (decide (IsOp o))) := by
  obtain ⟨o_client, o_req, o_kind, o_version, o_val⟩ := o
  refine fs_enter Tryz.func44 rfl Tryz.ntmps44 rfl ?_; intro H
  refine C_seq ?_
  refine C_region (l := [0, 1]) rfl ?_
  refine Y_box ?_; intro b1
  refine Y_assign ?_
  refine XD_end ?_
  refine K_then ?_
  refine Y_pk [2, 1] ?_
  iterate 2 refine C_seq ?_
  refine C_region (l := [0, 1, 2, 3, 4, 5, 6, 7]) rfl ?_
  refine Y_fieldAddr F.foff31_0 ?_
  refine Y_load F.lay3 ?_
  refine Y_cmp ?_
  refine Y_move ?_
  refine XD_part 6 rfl (fun hc2 => ?_) (fun hc2 => ?_)
  ·replace hc2 := dT hc2
   iterate 3 refine Y_skip ?_
   refine Y_pick ?_
   refine XD_end ?_
   refine K_then ?_
   refine Y_pk [10, 2, 1] ?_
   refine C_true rfl ?_
   refine C_seq ?_
   refine C_region (l := [0]) rfl ?_
   refine Y_assign ?_
   refine XD_end ?_
   refine K_then ?_
   refine Y_pk [2, 1] ?_
   refine C_ret ?_
   refine K_ret ?_
   refine K_end (.inr rfl) (.tmp rfl .nil) (fun w hw => ?_)
   refine ⟨_, rfl, (hw.c), ?_⟩
   clear hw
   refine congrArg Value.bool (a₁ := _) ?_
   grind [w64, IsOp, empty_size]
  ·replace hc2 := dF hc2
   refine Y_fieldAddr F.foff31_0 ?_
   refine Y_load F.lay3 ?_
   refine Y_cmp ?_
   refine Y_pick ?_
   refine XD_end ?_
   refine K_then ?_
   refine Y_pk [10, 2, 1] ?_
   refine C_cond rfl (fun hc3 => ?_) (fun hc3 => ?_)
   ·replace hc3 := dT hc3
    refine C_seq ?_
    refine C_region (l := [0]) rfl ?_
    refine Y_assign ?_
    refine XD_end ?_
    refine K_then ?_
    refine Y_pk [2, 1] ?_
    refine C_ret ?_
    refine K_ret ?_
    refine K_end (.inr rfl) (.tmp rfl .nil) (fun w hw => ?_)
    refine ⟨_, rfl, (hw.c), ?_⟩
    clear hw
    refine congrArg Value.bool (a₁ := _) ?_
    grind [w64, IsOp, empty_size]
   ·replace hc3 := dF hc3
    refine C_skip ?_
    refine K_then ?_
    refine Y_pk [2, 1] ?_
    iterate 2 refine C_seq ?_
    refine C_region (l := [0, 1]) rfl ?_
    refine Y_fieldAddr F.foff31_2 ?_
    refine Y_load F.lay3 ?_
    refine XD_end ?_
    refine K_then ?_
    refine Y_pk [12, 2, 1] ?_
    refine C_block ?_
    refine C_seq ?_
    refine C_block ?_
    refine C_seq ?_
    refine C_block ?_
    refine C_seq ?_
    refine C_block ?_
    refine C_seq ?_
    refine C_block ?_
    iterate 3 refine C_seq ?_
    refine C_region (l := [0, 1]) rfl ?_
    refine Y_cmp ?_
    refine Y_assign ?_
    refine XD_end ?_
    refine K_then ?_
    refine Y_pk [13, 12, 2, 1] ?_
    refine C_cond rfl (fun hc4 => ?_) (fun hc4 => ?_)
    ·replace hc4 := dT hc4
     refine C_exit ?_
     iterate 2 refine K_exit ?_
     refine K_hit ?_
     refine K_then ?_
     refine Y_pk [2, 1] ?_
     refine C_seq ?_
     refine C_region (l := [0, 1, 2]) rfl ?_
     refine Y_fieldAddr F.foff31_3 ?_
     refine Y_load F.lay22 ?_
     refine Y_cmp ?_
     refine XD_end ?_
     refine K_then ?_
     refine Y_pk [23, 2, 1] ?_
     refine C_cond rfl (fun hc5 => ?_) (fun hc5 => ?_)
     ·replace hc5 := nT hc5
      refine C_seq ?_
      refine C_region (l := [0]) rfl ?_
      refine Y_assign ?_
      refine XD_end ?_
      refine K_then ?_
      refine Y_pk [2, 1] ?_
      refine C_ret ?_
      refine K_retB ?_
      refine K_ret ?_
      refine K_retB ?_
      refine K_ret ?_
      refine K_retB ?_
      refine K_ret ?_
      refine K_retB ?_
      refine K_ret ?_
      refine K_end (.inr rfl) (.tmp rfl .nil) (fun w hw => ?_)
      refine ⟨_, rfl, (hw.c), ?_⟩
      clear hw
      refine congrArg Value.bool (a₁ := _) ?_
      grind [w64, IsOp, empty_size]
     ·replace hc5 := nF hc5
      refine C_skip ?_
      refine K_out ?_
      refine K_then ?_
      refine Y_pk [2, 1] ?_
      iterate 2 refine C_seq ?_
      refine C_region (l := [0, 1, 2, 3]) rfl ?_
      refine Y_fieldAddr F.foff31_4 ?_
      refine Y_load F.lay9 ?_
      refine Y_str ?_
      refine Y_assign ?_
      refine XD_end ?_
      refine K_then ?_
      refine Y_pk [2, 1] ?_
      refine C_ret ?_
      refine K_ret ?_
      refine K_retB ?_
      refine K_ret ?_
      refine K_retB ?_
      refine K_ret ?_
      refine K_retB ?_
      refine K_ret ?_
      refine K_end (.inr rfl) (.tmp rfl .nil) (fun w hw => ?_)
      refine ⟨_, rfl, (hw.c), ?_⟩
      clear hw
      refine congrArg Value.bool (a₁ := _) ?_
      grind [w64, IsOp, empty_size]
    ·replace hc4 := dF hc4
     refine C_skip ?_
     refine K_then ?_
     refine Y_pk [12, 2, 1] ?_
     iterate 2 refine C_seq ?_
     refine C_region (l := [0, 1]) rfl ?_
     refine Y_cmp ?_
     refine Y_assign ?_
     refine XD_end ?_
     refine K_then ?_
     refine Y_pk [15, 12, 2, 1] ?_
     refine C_cond rfl (fun hc6 => ?_) (fun hc6 => ?_)
     ·replace hc6 := dT hc6
      refine C_exit ?_
      iterate 2 refine K_exit ?_
      refine K_miss (by decide) ?_
      refine K_exit ?_
      refine K_hit ?_
      refine K_then ?_
      refine Y_pk [2, 1] ?_
      iterate 2 refine C_seq ?_
      refine C_region (l := [0, 1, 2, 3]) rfl ?_
      refine Y_fieldAddr F.foff31_4 ?_
      refine Y_load F.lay9 ?_
      refine Y_str ?_
      refine Y_assign ?_
      refine XD_end ?_
      refine K_then ?_
      refine Y_pk [2, 1] ?_
      refine C_ret ?_
      refine K_ret ?_
      refine K_retB ?_
      refine K_ret ?_
      refine K_retB ?_
      refine K_ret ?_
      refine K_retB ?_
      refine K_ret ?_
      refine K_end (.inr rfl) (.tmp rfl .nil) (fun w hw => ?_)
      refine ⟨_, rfl, (hw.c), ?_⟩
      clear hw
      refine congrArg Value.bool (a₁ := _) ?_
      grind [w64, IsOp, empty_size]
     ·replace hc6 := dF hc6
      refine C_skip ?_
      refine K_then ?_
      refine Y_pk [12, 2, 1] ?_
      iterate 2 refine C_seq ?_
      refine C_region (l := [0, 1]) rfl ?_
      refine Y_cmp ?_
      refine Y_assign ?_
      refine XD_end ?_
      refine K_then ?_
      refine Y_pk [17, 12, 2, 1] ?_
      refine C_cond rfl (fun hc7 => ?_) (fun hc7 => ?_)
      ·replace hc7 := dT hc7
       refine C_exit ?_
       iterate 2 refine K_exit ?_
       refine K_miss (by decide) ?_
       refine K_exit ?_
       refine K_miss (by decide) ?_
       refine K_exit ?_
       refine K_hit ?_
       refine K_then ?_
       refine Y_pk [2, 1] ?_
       refine C_seq ?_
       refine C_region (l := [0, 1, 2]) rfl ?_
       refine Y_fieldAddr F.foff31_3 ?_
       refine Y_load F.lay22 ?_
       refine Y_cmp ?_
       refine XD_end ?_
       refine K_then ?_
       refine Y_pk [29, 2, 1] ?_
       refine C_cond rfl (fun hc8 => ?_) (fun hc8 => ?_)
       ·replace hc8 := nT hc8
        refine C_seq ?_
        refine C_region (l := [0]) rfl ?_
        refine Y_assign ?_
        refine XD_end ?_
        refine K_then ?_
        refine Y_pk [2, 1] ?_
        refine C_ret ?_
        refine K_retB ?_
        refine K_ret ?_
        refine K_retB ?_
        refine K_ret ?_
        refine K_end (.inr rfl) (.tmp rfl .nil) (fun w hw => ?_)
        refine ⟨_, rfl, (hw.c), ?_⟩
        clear hw
        refine congrArg Value.bool (a₁ := _) ?_
        grind [w64, IsOp, empty_size]
       ·replace hc8 := nF hc8
        refine C_skip ?_
        refine K_out ?_
        refine K_then ?_
        refine Y_pk [2, 1] ?_
        iterate 2 refine C_seq ?_
        refine C_region (l := [0, 1, 2, 3, 4]) rfl ?_
        refine Y_fieldAddr F.foff31_4 ?_
        refine Y_load F.lay9 ?_
        refine Y_len_str Tryz.underlying9 ?_
        refine Y_cmp ?_
        refine Y_assign ?_
        refine XD_end ?_
        refine K_then ?_
        refine Y_pk [2] ?_
        refine C_ret ?_
        refine K_ret ?_
        refine K_retB ?_
        refine K_ret ?_
        refine K_end (.inr rfl) (.tmp rfl .nil) (fun w hw => ?_)
        refine ⟨_, rfl, (hw.c), ?_⟩
        clear hw
        refine congrArg Value.bool (a₁ := _) ?_
        grind [w64, IsOp, empty_size]
      ·replace hc7 := dF hc7
       refine C_skip ?_
       refine K_then ?_
       refine Y_pk [12, 2, 1] ?_
       refine C_seq ?_
       refine C_region (l := [0, 1]) rfl ?_
       refine Y_cmp ?_
       refine Y_assign ?_
       refine XD_end ?_
       refine K_then ?_
       refine Y_pk [19, 2, 1] ?_
       refine C_cond rfl (fun hc9 => ?_) (fun hc9 => ?_)
       ·replace hc9 := dT hc9
        refine C_exit ?_
        refine K_exit ?_
        refine K_miss (by decide) ?_
        refine K_exit ?_
        refine K_miss (by decide) ?_
        refine K_exit ?_
        refine K_miss (by decide) ?_
        refine K_exit ?_
        refine K_hit ?_
        refine K_then ?_
        refine Y_pk [2, 1] ?_
        iterate 2 refine C_seq ?_
        refine C_region (l := [0, 1, 2, 3, 4]) rfl ?_
        refine Y_fieldAddr F.foff31_4 ?_
        refine Y_load F.lay9 ?_
        refine Y_len_str Tryz.underlying9 ?_
        refine Y_cmp ?_
        refine Y_assign ?_
        refine XD_end ?_
        refine K_then ?_
        refine Y_pk [2] ?_
        refine C_ret ?_
        refine K_ret ?_
        refine K_retB ?_
        refine K_ret ?_
        refine K_end (.inr rfl) (.tmp rfl .nil) (fun w hw => ?_)
        refine ⟨_, rfl, (hw.c), ?_⟩
        clear hw
        refine congrArg Value.bool (a₁ := _) ?_
        grind [w64, IsOp, empty_size]
       ·replace hc9 := dF hc9
        refine C_skip ?_
        refine K_then ?_
        refine Y_pk [2, 1] ?_
        refine C_exit ?_
        refine K_miss (by decide) ?_
        refine K_exit ?_
        refine K_miss (by decide) ?_
        refine K_exit ?_
        refine K_miss (by decide) ?_
        refine K_exit ?_
        refine K_miss (by decide) ?_
        refine K_exit ?_
        refine K_hit ?_
        refine K_then ?_
        refine Y_pk [2] ?_
        refine C_seq ?_
        refine C_region (l := [0]) rfl ?_
        refine Y_assign ?_
        refine XD_end ?_
        refine K_then ?_
        refine C_ret ?_
        refine K_end (.inr rfl) (.tmp rfl .nil) (fun w hw => ?_)
        refine ⟨_, rfl, (hw.c), ?_⟩
        clear hw
        refine congrArg Value.bool (a₁ := _) ?_
        grind [w64, IsOp, empty_size]

theorem pbare_ok (M : Mem) (c : CellV) (hc0 : CellV.ok M c) : Fs Tryz.prog 45 [c.enc] M (fun v => v = Value.bool (decide (Bare c.pl))) := by
  obtain ⟨c_version, c_has, c_val, ⟨c_marks_a, c_marks_c, c_marks_l⟩⟩ := c
  have k_c_marks : SlK M MarkV.segs 6 ⟨c_marks_a, c_marks_c, c_marks_l⟩ := hc0.h0
  have s_c_marks : SlM M c_marks_a (c_marks_l.map MarkV.segs) 6 := k_c_marks.h1
  have n_c_marks : (c_marks_l.map MarkV.segs).length = c_marks_l.length := List.length_map ..
  have m_c_marks : c_marks_l.length ≤ 9223372036854775807 := k_c_marks.h2
  have c_c_marks : c_marks_l.length ≤ c_marks_c := k_c_marks.h3
  refine fs_enter Tryz.func45 rfl Tryz.ntmps45 rfl ?_; intro H
  refine C_seq ?_
  refine C_region (l := [0, 1]) rfl ?_
  refine Y_box ?_; intro b1
  refine Y_assign ?_
  refine XD_end ?_
  refine K_then ?_
  refine Y_pk [2, 1] ?_
  refine C_seq ?_
  refine C_region (l := [0, 1, 2, 3, 4, 5, 6, 7, 8, 9, 10, 11, 12, 13, 14, 15, 16, 17, 18, 19]) rfl ?_
  refine Y_fieldAddr F.foff37_0 ?_
  refine Y_load F.lay22 ?_
  refine Y_cmp ?_
  refine Y_move ?_
  refine XD_part 6 rfl (fun hc2 => ?_) (fun hc2 => ?_)
  ·replace hc2 := dT hc2
   refine Y_fieldAddr F.foff37_1 ?_
   refine Y_load F.lay4 ?_
   refine Y_not ?_
   refine Y_pick ?_
   refine Y_move ?_
   refine XD_part 11 rfl (fun hc3 => ?_) (fun hc3 => ?_)
   ·skip
    refine Y_fieldAddr F.foff37_2 ?_
    refine Y_load F.lay9 ?_
    refine Y_str ?_
    refine Y_pick ?_
    refine Y_move ?_
    refine XD_part 16 rfl (fun hc4 => ?_) (fun hc4 => ?_)
    ·replace hc4 := dT hc4
     refine Y_fieldAddr F.foff37_3 ?_
     refine Y_load F.lay35 ?_
     refine Y_len_sl F.elem35 ?_
     refine Y_cmp ?_
     refine Y_pick ?_
     refine Y_assign ?_
     refine XD_end ?_
     refine K_then ?_
     refine Y_pk [2] ?_
     refine C_ret ?_
     refine K_end (.inr rfl) (.tmp rfl .nil) (fun w hw => ?_)
     refine ⟨_, rfl, (hw.c), ?_⟩
     clear hw
     refine congrArg Value.bool (a₁ := _) ?_
     grind [w64, Bare, CellV.pl, List.length_eq_zero_iff]
    ·replace hc4 := dF hc4
     iterate 4 refine Y_skip ?_
     refine Y_pick ?_
     refine Y_assign ?_
     refine XD_end ?_
     refine K_then ?_
     refine Y_pk [2] ?_
     refine C_ret ?_
     refine K_end (.inr rfl) (.tmp rfl .nil) (fun w hw => ?_)
     refine ⟨_, rfl, (hw.c), ?_⟩
     clear hw
     refine congrArg Value.bool (a₁ := _) ?_
     grind [w64, Bare, CellV.pl, List.length_eq_zero_iff]
   ·skip
    iterate 3 refine Y_skip ?_
    refine Y_pick ?_
    refine Y_move ?_
    iterate 4 refine Y_skip ?_
    refine Y_pick ?_
    refine Y_assign ?_
    refine XD_end ?_
    refine K_then ?_
    refine Y_pk [2] ?_
    refine C_ret ?_
    refine K_end (.inr rfl) (.tmp rfl .nil) (fun w hw => ?_)
    refine ⟨_, rfl, (hw.c), ?_⟩
    clear hw
    refine congrArg Value.bool (a₁ := _) ?_
    grind [w64, Bare, CellV.pl, List.length_eq_zero_iff]
  ·replace hc2 := dF hc2
   iterate 3 refine Y_skip ?_
   refine Y_pick ?_
   refine Y_move ?_
   iterate 3 refine Y_skip ?_
   refine Y_pick ?_
   refine Y_move ?_
   iterate 4 refine Y_skip ?_
   refine Y_pick ?_
   refine Y_assign ?_
   refine XD_end ?_
   refine K_then ?_
   refine Y_pk [2] ?_
   refine C_ret ?_
   refine K_end (.inr rfl) (.tmp rfl .nil) (fun w hw => ?_)
   refine ⟨_, rfl, (hw.c), ?_⟩
   clear hw
   refine congrArg Value.bool (a₁ := _) ?_
   grind [w64, Bare, CellV.pl, List.length_eq_zero_iff]

theorem codes_ok (M : Mem) (b : Nat) : Fh Tryz.prog 82 [.slice (some ⟨b, 0, none⟩) 2 2] M [(b, .cells (rowsCells [oneI .i64 7, oneI .i64 9]).toArray 32 (0, 0))] (fun M' v Hout => M' = M ∧ OSl 32 1 v Hout [oneI .i64 0, oneI .i64 8, oneI .i64 7, oneI .i64 9]) := by
  refine fh_enter Tryz.func82 rfl Tryz.ntmps82 rfl ?_; intro H
  refine C_seq ?_
  refine C_region (l := [0]) rfl ?_
  refine Y_assign ?_
  refine XD_end ?_
  refine K_then ?_
  refine C_seq ?_
  refine C_region (l := [0, 1, 2, 3]) rfl ?_
  refine X_buildSliceF rfl rfl F.elem121 F.zero32 rfl rfl (.cons rfl (by constructor) (.cons rfl (by constructor) .nil)) rfl rfl (by simp only [List.map_cons, List.map_nil] <;> rfl) rfl ?_; intro b1 hob2
  refine Y_move ?_
  refine X_append (m := 1000000) rfl rfl rfl rfl rfl F.elem121 F.zero32 (by rfl) rfl (by assumption) (by repeat first | exact Rem.here _ | exact Rem.two | apply Rem.skip | apply Rem.over) (Src.own (E := 32) (news := [oneI .i64 7, oneI .i64 9]) (by simp [lens, oneI, Segs.len, Seg.len]) (by simp [rowsCells, oneI, Segs.cells, Seg.cells, Value.oneCell']) rfl (by repeat first | exact List.Mem.head _ | refine List.Mem.tail _ ?_ | refine List.mem_append_right _ ?_)) (by (simp; done)) (by decide) rfl ?_; intro v5 hs4 ho3; obtain ⟨adv5, cpv5, rfl⟩ := ho3.val
  refine Y_assign ?_
  refine XD_end ?_
  refine K_then ?_
  refine Y_pk [2] ?_
  refine C_ret ?_
  refine K_end (.inr rfl) (.tmp rfl .nil) (fun w hw => ?_)
  exact ⟨_, M, hs4, rfl, Mem.le.refl M, hw.c, rfl, ho3⟩

theorem IndexE_rd (M : Mem) (Hin : Hp) (l : Sl Int) (x : Int) (hl : RdS M Hin l.a (l.l.map (oneI .i64)) 1) (bl : l.l.length ≤ 9223372036854775807) : Fo Tryz.prog 106 [l.val, .int .i64 x] M Hin (fun M' v => M' = M ∧ v = .int .i64 (idxI x l.l)) := by
  have nl : (l.l.map (oneI .i64)).length = l.l.length := List.length_map ..
  refine fo_enter Tryz.func106 rfl Tryz.ntmps106 rfl ?_; intro H
  have hrd := hl.app H
  refine C_seq ?_
  refine C_region (l := [0]) rfl ?_
  refine Y_assign ?_
  refine XD_end ?_
  refine K_then ?_
  iterate 2 refine C_seq ?_
  refine C_region (l := [0, 1, 2]) rfl ?_
  refine Y_move ?_
  refine Y_len_sl F.elem121 ?_
  refine Y_move ?_
  refine XD_end ?_
  refine K_then ?_
  refine Y_pk [8, 7, 4, 0, 1] ?_
  refine C_block ?_
  refine Y_pk [8, 7, 4, 0, 1] ?_
  refine C_loopS (.succ .zero) (fun (k : Nat) z => z = [(8, .int .i64 (k : Int))] ∧ k ≤ l.l.length ∧ (x ∉ l.l.take k)) (fun k => l.l.length - k) (0) (⟨rfl, by omega, by simp⟩) ?_
  rintro k _ ⟨rfl, hk, hI⟩
  refine C_seq ?_
  refine C_region (l := [0]) rfl ?_
  refine Y_cmp ?_
  refine XD_end ?_
  refine K_then ?_
  refine C_seq ?_
  refine C_cond rfl (fun hc1 => ?_) (fun hc1 => ?_)
  ·replace hc1 := dT hc1
   refine C_skip ?_
   refine K_then ?_
   refine C_seq ?_
   refine C_block ?_
   refine C_seq ?_
   refine C_region (l := [0, 1]) rfl ?_
   refine Y_move ?_
   refine Y_assign ?_
   refine XD_end ?_
   refine K_then ?_
   refine C_seq ?_
   refine C_region (l := [0, 1, 2, 3, 4, 5]) rfl ?_
   iterate 3 refine Y_move ?_
   refine X_indexAddr rfl rfl rfl rfl F.elem121 (by rfl) (by omega) (by exact RdS.plain (by assumption) (by (simp; omega))) rfl ?_
   refine X_load_rd rfl rfl rfl (by assumption) (by exact row_map (by omega)) F.lay32 rfl rfl rfl ?_
   refine Y_cmp ?_
   refine XD_end ?_
   refine K_then ?_
   refine C_cond rfl (fun hc2 => ?_) (fun hc2 => ?_)
   ·replace hc2 := dT hc2
    refine C_seq ?_
    refine C_region (l := [0, 1]) rfl ?_
    refine Y_move ?_
    refine Y_assign ?_
    refine XD_end ?_
    refine K_then ?_
    refine C_ret ?_
    refine K_retB ?_
    iterate 2 refine K_ret ?_
    refine K_retB ?_
    refine K_ret ?_
    refine K_end (.inr rfl) (.tmp rfl .nil) (fun w hw => ?_)
    refine ⟨_, M, rfl, Mem.le.refl M, hw.c, rfl, ?_⟩
    refine congrArg (Value.int .i64) ?_
    exact (idxI_at (by omega) hI (by assumption)).symm
   ·replace hc2 := dF hc2
    refine C_skip ?_
    refine K_out ?_
    refine K_then ?_
    refine C_region (l := [0, 1]) rfl ?_
    refine X_ari rfl rfl rfl rfl rfl (by exact wrap_in (by decide) (by omega)) rfl ?_
    refine Y_move ?_
    refine XD_end ?_
    refine K_roundS (a' := [(8, _)]) (k + 1) (.cons (k := 8) rfl (.cons (k := 7) rfl (.cons (k := 4) rfl (.cons (k := 0) rfl (.cons (k := 1) rfl (.nil)))))) (fun w hw => by first | exact hw | exact hw.c) ?_ ?_
    ·refine ⟨rfl, by omega, ?_⟩
     exact not_take_succ (by omega) hI (by assumption)
    ·omega
  ·replace hc1 := dF hc1
   refine C_exit ?_
   iterate 2 refine K_exit ?_
   refine K_hit ?_
   refine K_then ?_
   refine Y_pk [4] ?_
   refine C_seq ?_
   refine C_region (l := [0]) rfl ?_
   refine Y_assign ?_
   refine XD_end ?_
   refine K_then ?_
   refine C_ret ?_
   refine K_end (.inr rfl) (.tmp rfl .nil) (fun w hw => ?_)
   refine ⟨_, M, rfl, Mem.le.refl M, hw.c, rfl, ?_⟩
   refine congrArg (Value.int .i64) ?_
   (have hk9 : k = l.l.length := (by omega); subst hk9; rw [List.take_length] at hI; exact (idxI_none hI).symm)

theorem ContainsE_rd (M : Mem) (Hin : Hp) (l : Sl Int) (x : Int) (hl : RdS M Hin l.a (l.l.map (oneI .i64)) 1) (bl : l.l.length ≤ 9223372036854775807) : Fo Tryz.prog 81 [l.val, .int .i64 x] M Hin (fun M' v => M' = M ∧ v = .bool (decide (x ∈ l.l))) := by
  refine fo_enter Tryz.func81 rfl Tryz.ntmps81 rfl ?_; intro H
  refine C_seq ?_
  refine C_region (l := [0]) rfl ?_
  refine Y_assign ?_
  refine XD_end ?_
  refine K_then ?_
  refine C_seq ?_
  refine C_region (l := [0, 1, 2, 3, 4]) rfl ?_
  iterate 2 refine Y_move ?_
  refine X_fo rfl rfl F.ok106 rfl (IndexE_rd _ Hin ⟨_, _, _⟩ _ hl bl) (by repeat first | exact Rem.here _ | exact Rem.two | apply Rem.skip | apply Rem.over) (putE_some rfl) ?_
  rintro _ M1 _ ⟨hM1, rfl⟩; subst M1
  refine Y_cmp ?_
  refine Y_assign ?_
  refine XD_end ?_
  refine K_then ?_
  refine Y_pk [4] ?_
  refine C_ret ?_
  refine K_end (.inr rfl) (.tmp rfl .nil) (fun w hw => ?_)
  exact ⟨_, M, rfl, Mem.le.refl M, hw.c, rfl, congrArg Value.bool (by simp [idxI_nn])⟩

theorem pA_ok (M : Mem) (a : AnswerV) : Fs Tryz.prog 46 [a.enc] M (fun v => v = Value.bool (decide (OkAnswer a))) := by
  obtain ⟨a_code, a_version, a_has, a_val⟩ := a
  refine fs_enter Tryz.func46 rfl Tryz.ntmps46 rfl ?_; intro H
  refine C_seq ?_
  refine C_region (l := [0, 1]) rfl ?_
  refine Y_box ?_; intro b1
  refine Y_assign ?_
  refine XD_end ?_
  refine K_then ?_
  refine Y_pk [2, 1] ?_
  refine C_seq ?_
  refine C_region_any (l := [0, 1, 2, 3, 4, 5, 6, 7, 8, 9, 10, 11, 12, 13, 14, 15, 16, 17, 18, 19, 20]) #[0, 1, 0, 4, 15, 31, 63, 127, 255, 511, 1023, 2047, 4095, 8191, 16383, 32767, 65535, 131071, 262143, 524287, 1048575] _ rfl (by kernel_rfl) (by kernel_rfl) St.drawn (fun _ h => h) ?_
  refine X_buildSliceF rfl rfl F.elem121 F.zero32 rfl rfl (.cons rfl (by constructor) (.cons rfl (by constructor) .nil)) rfl rfl (by simp only [List.map_cons, List.map_nil] <;> rfl) rfl ?_; intro b2 hob3
  refine X_fhR rfl rfl F.ok82 rfl (codes_ok M _) (by repeat first | exact Rem.here _ | exact Rem.two | apply Rem.skip | apply Rem.over) (fun _ _ _ hm hw => (hw.lower (by exact hm)).c) (putE_some rfl) ?_
  rintro _ M1 hs1 _ ⟨hM1, ho1⟩; subst M1
  obtain ⟨ad1, cp1, rfl⟩ := ho1.val
  refine Y_fieldAddr F.foff34_0 ?_
  refine Y_load F.lay32 ?_
  refine X_fo rfl rfl F.ok81 rfl (ContainsE_rd _ hs1 ⟨_, _, [0, 8, 7, 9]⟩ _ (OSl.rd ho1 _) (by simp)) (by repeat first | exact Rem.here _ | exact Rem.two | apply Rem.skip | apply Rem.over) (putE_some rfl) ?_
  rintro _ M1 _ ⟨hM1, rfl⟩; subst M1
  refine Y_move ?_
  refine XD_part 8 rfl (fun hc4 => ?_) (fun hc4 => ?_)
  ·replace hc4 := dT hc4
   simp only [AnswerV.eta, MarkV.eta, CellV.eta, HeldV.eta, WaitV.eta, ServerV.eta, PeerV.eta, OpV.eta, ParcelV.eta, PostV.eta, WorkerV.eta] at hc4
   refine Y_fieldAddr F.foff34_3 ?_
   refine Y_load F.lay9 ?_
   refine Y_len_str Tryz.underlying9 ?_
   refine Y_cmp ?_
   refine Y_pick ?_
   refine Y_move ?_
   refine XD_part 14 rfl (fun hc5 => ?_) (fun hc5 => ?_)
   ·replace hc5 := dT hc5
    refine Y_fieldAddr F.foff34_2 ?_
    refine Y_load F.lay4 ?_
    refine Y_move ?_
    refine XD_part 17 rfl (fun hc6 => ?_) (fun hc6 => ?_)
    ·skip
     iterate 3 refine Y_skip ?_
     iterate 2 refine Y_pick ?_
     refine Y_assign ?_
     refine XD_end ?_
     refine K_then ?_
     refine Y_pk [2] ?_
     refine C_ret ?_
     refine K_end (.inr rfl) (.tmp rfl .nil) (fun w hw => ?_)
     refine ⟨_, rfl, (hw.c), ?_⟩
     clear hw
     refine congrArg Value.bool (a₁ := _) ?_
     grind [w64, OkAnswer]
    ·skip
     refine Y_fieldAddr F.foff34_3 ?_
     refine Y_load F.lay9 ?_
     refine Y_str ?_
     iterate 2 refine Y_pick ?_
     refine Y_assign ?_
     refine XD_end ?_
     refine K_then ?_
     refine Y_pk [2] ?_
     refine C_ret ?_
     refine K_end (.inr rfl) (.tmp rfl .nil) (fun w hw => ?_)
     refine ⟨_, rfl, (hw.c), ?_⟩
     clear hw
     refine congrArg Value.bool (a₁ := _) ?_
     grind [w64, OkAnswer]
   ·replace hc5 := dF hc5
    iterate 7 refine Y_skip ?_
    refine Y_pick ?_
    refine Y_assign ?_
    refine XD_end ?_
    refine K_then ?_
    refine Y_pk [2] ?_
    refine C_ret ?_
    refine K_end (.inr rfl) (.tmp rfl .nil) (fun w hw => ?_)
    refine ⟨_, rfl, (hw.c), ?_⟩
    clear hw
    refine congrArg Value.bool (a₁ := _) ?_
    grind [w64, OkAnswer]
  ·replace hc4 := dF hc4
   simp only [AnswerV.eta, MarkV.eta, CellV.eta, HeldV.eta, WaitV.eta, ServerV.eta, PeerV.eta, OpV.eta, ParcelV.eta, PostV.eta, WorkerV.eta] at hc4
   iterate 4 refine Y_skip ?_
   refine Y_pick ?_
   refine Y_move ?_
   iterate 7 refine Y_skip ?_
   refine Y_pick ?_
   refine Y_assign ?_
   refine XD_end ?_
   refine K_then ?_
   refine Y_pk [2] ?_
   refine C_ret ?_
   refine K_end (.inr rfl) (.tmp rfl .nil) (fun w hw => ?_)
   refine ⟨_, rfl, (hw.c), ?_⟩
   clear hw
   refine congrArg Value.bool (a₁ := _) ?_
   grind [w64, OkAnswer]

theorem pIs_ok (M : Mem) (p : ParcelV) (hp0 : ParcelV.ok M p) : Fs Tryz.prog 18 [p.enc] M (fun v => v = Value.bool (decide (IsPrc p.pl))) := by
  obtain ⟨p_kind, p_epoch, p_key, ⟨p_op_client, p_op_req, p_op_kind, p_op_version, p_op_val⟩, ⟨p_answer_code, p_answer_version, p_answer_has, p_answer_val⟩, p_serial, ⟨p_cell_version, p_cell_has, p_cell_val, ⟨p_cell_marks_a, p_cell_marks_c, p_cell_marks_l⟩⟩⟩ := p
  have k_p_cell : CellV.ok M ⟨p_cell_version, p_cell_has, p_cell_val, ⟨p_cell_marks_a, p_cell_marks_c, p_cell_marks_l⟩⟩ := hp0.h0
  have k_p_cell_marks : SlK M MarkV.segs 6 ⟨p_cell_marks_a, p_cell_marks_c, p_cell_marks_l⟩ := hp0.h0.h0
  have s_p_cell_marks : SlM M p_cell_marks_a (p_cell_marks_l.map MarkV.segs) 6 := k_p_cell_marks.h1
  have n_p_cell_marks : (p_cell_marks_l.map MarkV.segs).length = p_cell_marks_l.length := List.length_map ..
  have m_p_cell_marks : p_cell_marks_l.length ≤ 9223372036854775807 := k_p_cell_marks.h2
  have c_p_cell_marks : p_cell_marks_l.length ≤ p_cell_marks_c := k_p_cell_marks.h3
  refine fs_enter Tryz.func18 rfl Tryz.ntmps18 rfl ?_; intro H
  refine C_seq ?_
  refine C_region (l := [0, 1]) rfl ?_
  refine Y_box ?_; intro b1
  refine Y_assign ?_
  refine XD_end ?_
  refine K_then ?_
  refine Y_pk [2, 1] ?_
  refine C_seq ?_
  refine C_region (l := [0, 1, 2, 3, 4, 5, 6, 7, 8]) rfl ?_
  refine Y_fieldAddr F.foff39_3 ?_
  refine Y_fieldAddr F.foff31_0 ?_
  refine Y_load F.lay3 ?_
  refine Y_fieldAddr F.foff39_3 ?_
  refine Y_fieldAddr F.foff31_1 ?_
  refine Y_load F.lay22 ?_
  refine X_build rfl rfl F.bld31 (.cons rfl (by constructor) (.cons rfl (by constructor) .nil)) rfl rfl ?_
  refine Y_alloc F.zero31 ?_; intro b2
  refine Y_store F.lay31 ?_
  refine XD_end ?_
  refine K_then ?_
  refine Y_pk [3, 2, 1] ?_
  refine C_seq ?_
  refine C_region_any (l := [0, 1, 2, 3, 4, 5, 6, 7, 8, 9, 10, 11, 12, 13, 14]) #[0, 1, 0, 7, 0, 16, 0, 112, 0, 256, 0, 1792, 15, 4351, 16383] _ rfl (by kernel_rfl) (by kernel_rfl) St.drawn (fun _ h => h) ?_
  refine Y_fieldAddr F.foff39_2 ?_
  refine Y_load F.lay29 ?_
  refine X_build0 rfl rfl F.zero29 F.arr29 rfl ?_
  refine X_same (m := 20) rfl rfl rfl rfl rfl (by constructor) (by constructor) F.lay29 F.kinds29 rfl F.guard29 (fit_id fit_nil) (fit_id fit_nil) rfl rfl rfl ?_; intro c3 he4
  replace he4 : c3 = true ↔ Segs.cells _ = Segs.cells _ := he4
  obtain rfl := eqD he4 (cells_id1 (x := _) (y := _)); clear he4
  refine Y_fieldAddr F.foff39_3 ?_
  refine Y_load F.lay31 ?_
  refine X_build rfl rfl F.bld31 (.nil) rfl rfl ?_
  refine X_same (m := 20) rfl rfl rfl rfl rfl (by constructor) (by constructor) F.lay31 F.kinds31 rfl F.guard31 (by exact FitOpV (⟨_, _, _, _, _⟩)) (by exact FitOpV (⟨_, _, _, _, _⟩)) rfl rfl rfl ?_; intro c5 he6
  replace he6 : c5 = true ↔ Segs.cells _ = Segs.cells _ := he6
  obtain rfl := eqD he6 (OpV.inj (x := ⟨_, _, _, _, _⟩) (y := ⟨_, _, _, _, _⟩)); clear he6
  refine Y_fieldAddr F.foff39_4 ?_
  refine Y_load F.lay34 ?_
  refine X_build rfl rfl F.bld34 (.nil) rfl rfl ?_
  refine X_same (m := 20) rfl rfl rfl rfl rfl (by constructor) (by constructor) F.lay34 F.kinds34 rfl F.guard34 (by exact FitAnswerV (⟨_, _, _, _⟩)) (by exact FitAnswerV (⟨_, _, _, _⟩)) rfl rfl rfl ?_; intro c7 he8
  replace he8 : c7 = true ↔ Segs.cells _ = Segs.cells _ := he8
  obtain rfl := eqD he8 (AnswerV.inj (x := ⟨_, _, _, _⟩) (y := ⟨_, _, _, _⟩)); clear he8
  iterate 3 refine Y_assign ?_
  refine XD_end ?_
  refine K_then ?_
  refine Y_pk [6, 5, 4, 3, 2, 1] ?_
  iterate 2 refine C_seq ?_
  refine C_region (l := [0, 1]) rfl ?_
  refine Y_fieldAddr F.foff39_0 ?_
  refine Y_load F.lay3 ?_
  refine XD_end ?_
  refine K_then ?_
  refine Y_pk [27, 6, 5, 4, 3, 2, 1] ?_
  refine C_block ?_
  refine C_seq ?_
  refine C_region (l := [0, 1]) rfl ?_
  refine Y_cmp ?_
  refine Y_assign ?_
  refine XD_end ?_
  refine K_then ?_
  refine Y_pk [28, 27, 6, 5, 4, 3, 2, 1] ?_
  refine C_cond rfl (fun hc9 => ?_) (fun hc9 => ?_)
  ·replace hc9 := dT hc9
   refine C_seq ?_
   refine C_region (l := [0, 1, 2, 3, 4, 5, 6, 7, 8, 9, 10, 11, 12, 13, 14, 15, 16]) rfl ?_
   refine Y_fieldAddr F.foff39_3 ?_
   refine Y_load F.lay31 ?_
   refine X_fs rfl rfl F.ok44 rfl (IsOp_ok _ ⟨_, _, _, _, _⟩) rfl ?_
   rintro _ rfl
   refine Y_move ?_
   refine XD_part 33 rfl (fun hc10 => ?_) (fun hc10 => ?_)
   ·replace hc10 := dT hc10
    refine Y_move ?_
    refine Y_pick ?_
    refine Y_move ?_
    refine XD_part 36 rfl (fun hc11 => ?_) (fun hc11 => ?_)
    ·replace hc11 := dT hc11
     refine Y_fieldAddr F.foff39_5 ?_
     refine Y_load F.lay22 ?_
     refine Y_cmp ?_
     refine Y_pick ?_
     refine Y_move ?_
     refine XD_part 41 rfl (fun hc12 => ?_) (fun hc12 => ?_)
     ·replace hc12 := dT hc12
      refine Y_fieldAddr F.foff39_6 ?_
      refine Y_load F.lay37 ?_
      refine X_fs rfl rfl F.ok45 rfl (pbare_ok _ ⟨_, _, _, ⟨_, _, _⟩⟩ (by assumption)) rfl ?_
      rintro _ rfl
      refine Y_pick ?_
      refine Y_assign ?_
      refine XD_end ?_
      refine K_then ?_
      refine Y_pk [2] ?_
      refine C_ret ?_
      refine K_retB ?_
      refine K_ret ?_
      refine K_end (.inr rfl) (.tmp rfl .nil) (fun w hw => ?_)
      refine ⟨_, rfl, (hw.c), ?_⟩
      clear hw
      refine congrArg Value.bool (a₁ := _) ?_
      grind [w64, IsPrc, ParcelV.pl, AnswerV.zero, OpV.zero]
     ·replace hc12 := dF hc12
      iterate 3 refine Y_skip ?_
      refine Y_pick ?_
      refine Y_assign ?_
      refine XD_end ?_
      refine K_then ?_
      refine Y_pk [2] ?_
      refine C_ret ?_
      refine K_retB ?_
      refine K_ret ?_
      refine K_end (.inr rfl) (.tmp rfl .nil) (fun w hw => ?_)
      refine ⟨_, rfl, (hw.c), ?_⟩
      clear hw
      refine congrArg Value.bool (a₁ := _) ?_
      grind [w64, IsPrc, ParcelV.pl, AnswerV.zero, OpV.zero]
    ·replace hc11 := dF hc11
     iterate 3 refine Y_skip ?_
     refine Y_pick ?_
     refine Y_move ?_
     iterate 3 refine Y_skip ?_
     refine Y_pick ?_
     refine Y_assign ?_
     refine XD_end ?_
     refine K_then ?_
     refine Y_pk [2] ?_
     refine C_ret ?_
     refine K_retB ?_
     refine K_ret ?_
     refine K_end (.inr rfl) (.tmp rfl .nil) (fun w hw => ?_)
     refine ⟨_, rfl, (hw.c), ?_⟩
     clear hw
     refine congrArg Value.bool (a₁ := _) ?_
     grind [w64, IsPrc, ParcelV.pl, AnswerV.zero, OpV.zero]
   ·replace hc10 := dF hc10
    refine Y_skip ?_
    refine Y_pick ?_
    refine Y_move ?_
    iterate 3 refine Y_skip ?_
    refine Y_pick ?_
    refine Y_move ?_
    iterate 3 refine Y_skip ?_
    refine Y_pick ?_
    refine Y_assign ?_
    refine XD_end ?_
    refine K_then ?_
    refine Y_pk [2] ?_
    refine C_ret ?_
    refine K_retB ?_
    refine K_ret ?_
    refine K_end (.inr rfl) (.tmp rfl .nil) (fun w hw => ?_)
    refine ⟨_, rfl, (hw.c), ?_⟩
    clear hw
    refine congrArg Value.bool (a₁ := _) ?_
    grind [w64, IsPrc, ParcelV.pl, AnswerV.zero, OpV.zero]
  ·replace hc9 := dF hc9
   refine C_seq ?_
   refine C_region (l := [0, 1]) rfl ?_
   refine Y_cmp ?_
   refine Y_assign ?_
   refine XD_end ?_
   refine K_then ?_
   refine Y_pk [46, 27, 6, 5, 4, 3, 2, 1] ?_
   refine C_cond rfl (fun hc13 => ?_) (fun hc13 => ?_)
   ·replace hc13 := dT hc13
    refine C_seq ?_
    refine C_region (l := [0, 1, 2, 3, 4, 5, 6, 7, 8, 9, 10, 11, 12, 13, 14, 15, 16, 17, 18, 19, 20, 21, 22, 23, 24, 25, 26, 27, 28, 29, 30, 31, 32]) rfl ?_
    iterate 2 refine Y_move ?_
    refine XD_part 49 rfl (fun hc14 => ?_) (fun hc14 => ?_)
    ·replace hc14 := dT hc14
     refine Y_fieldAddr F.foff39_3 ?_
     iterate 2 refine Y_load F.lay31 ?_
     refine X_same (m := 20) rfl rfl rfl rfl rfl (by constructor) (by constructor) F.lay31 F.kinds31 rfl F.guard31 (by exact FitOpV (⟨_, _, _, _, _⟩)) (by exact FitOpV (⟨_, _, _, _, _⟩)) rfl rfl rfl ?_; intro c15 he16
     replace he16 : c15 = true ↔ Segs.cells _ = Segs.cells _ := he16
     obtain rfl := eqD he16 (OpV.inj (x := ⟨_, _, _, _, _⟩) (y := ⟨_, _, _, _, _⟩)); clear he16
     refine Y_pick ?_
     refine Y_move ?_
     refine XD_part 55 rfl (fun hc17 => ?_) (fun hc17 => ?_)
     ·replace hc17 := dT hc17
      refine Y_fieldAddr F.foff31_0 ?_
      refine Y_load F.lay3 ?_
      refine Y_cmp ?_
      refine Y_pick ?_
      refine Y_move ?_
      refine XD_part 60 rfl (fun hc18 => ?_) (fun hc18 => ?_)
      ·replace hc18 := dT hc18
       refine Y_fieldAddr F.foff31_0 ?_
       refine Y_load F.lay3 ?_
       refine Y_cmp ?_
       refine Y_pick ?_
       refine Y_move ?_
       refine XD_part 65 rfl (fun hc19 => ?_) (fun hc19 => ?_)
       ·replace hc19 := dT hc19
        refine Y_fieldAddr F.foff39_4 ?_
        refine Y_load F.lay34 ?_
        refine X_fs rfl rfl F.ok46 rfl (pA_ok _ ⟨_, _, _, _⟩) rfl ?_
        rintro _ rfl
        refine Y_pick ?_
        refine Y_move ?_
        refine XD_part 70 rfl (fun hc20 => ?_) (fun hc20 => ?_)
        ·replace hc20 := dT hc20
         refine Y_fieldAddr F.foff39_5 ?_
         refine Y_load F.lay22 ?_
         refine Y_cmp ?_
         refine Y_pick ?_
         refine Y_move ?_
         refine XD_part 75 rfl (fun hc21 => ?_) (fun hc21 => ?_)
         ·replace hc21 := dT hc21
          refine Y_fieldAddr F.foff39_6 ?_
          refine Y_load F.lay37 ?_
          refine X_fs rfl rfl F.ok45 rfl (pbare_ok _ ⟨_, _, _, ⟨_, _, _⟩⟩ (by assumption)) rfl ?_
          rintro _ rfl
          refine Y_pick ?_
          refine Y_assign ?_
          refine XD_end ?_
          refine K_then ?_
          refine Y_pk [2] ?_
          refine C_ret ?_
          refine K_retB ?_
          refine K_ret ?_
          refine K_end (.inr rfl) (.tmp rfl .nil) (fun w hw => ?_)
          refine ⟨_, rfl, (hw.c), ?_⟩
          clear hw
          refine congrArg Value.bool (a₁ := _) ?_
          grind [w64, IsPrc, ParcelV.pl, AnswerV.zero, OpV.zero]
         ·replace hc21 := dF hc21
          iterate 3 refine Y_skip ?_
          refine Y_pick ?_
          refine Y_assign ?_
          refine XD_end ?_
          refine K_then ?_
          refine Y_pk [2] ?_
          refine C_ret ?_
          refine K_retB ?_
          refine K_ret ?_
          refine K_end (.inr rfl) (.tmp rfl .nil) (fun w hw => ?_)
          refine ⟨_, rfl, (hw.c), ?_⟩
          clear hw
          refine congrArg Value.bool (a₁ := _) ?_
          grind [w64, IsPrc, ParcelV.pl, AnswerV.zero, OpV.zero]
        ·replace hc20 := dF hc20
         iterate 3 refine Y_skip ?_
         refine Y_pick ?_
         refine Y_move ?_
         iterate 3 refine Y_skip ?_
         refine Y_pick ?_
         refine Y_assign ?_
         refine XD_end ?_
         refine K_then ?_
         refine Y_pk [2] ?_
         refine C_ret ?_
         refine K_retB ?_
         refine K_ret ?_
         refine K_end (.inr rfl) (.tmp rfl .nil) (fun w hw => ?_)
         refine ⟨_, rfl, (hw.c), ?_⟩
         clear hw
         refine congrArg Value.bool (a₁ := _) ?_
         grind [w64, IsPrc, ParcelV.pl, AnswerV.zero, OpV.zero]
       ·replace hc19 := dF hc19
        iterate 3 refine Y_skip ?_
        refine Y_pick ?_
        refine Y_move ?_
        iterate 3 refine Y_skip ?_
        refine Y_pick ?_
        refine Y_move ?_
        iterate 3 refine Y_skip ?_
        refine Y_pick ?_
        refine Y_assign ?_
        refine XD_end ?_
        refine K_then ?_
        refine Y_pk [2] ?_
        refine C_ret ?_
        refine K_retB ?_
        refine K_ret ?_
        refine K_end (.inr rfl) (.tmp rfl .nil) (fun w hw => ?_)
        refine ⟨_, rfl, (hw.c), ?_⟩
        clear hw
        refine congrArg Value.bool (a₁ := _) ?_
        grind [w64, IsPrc, ParcelV.pl, AnswerV.zero, OpV.zero]
      ·replace hc18 := dF hc18
       iterate 3 refine Y_skip ?_
       refine Y_pick ?_
       refine Y_move ?_
       iterate 3 refine Y_skip ?_
       refine Y_pick ?_
       refine Y_move ?_
       iterate 3 refine Y_skip ?_
       refine Y_pick ?_
       refine Y_move ?_
       iterate 3 refine Y_skip ?_
       refine Y_pick ?_
       refine Y_assign ?_
       refine XD_end ?_
       refine K_then ?_
       refine Y_pk [2] ?_
       refine C_ret ?_
       refine K_retB ?_
       refine K_ret ?_
       refine K_end (.inr rfl) (.tmp rfl .nil) (fun w hw => ?_)
       refine ⟨_, rfl, (hw.c), ?_⟩
       clear hw
       refine congrArg Value.bool (a₁ := _) ?_
       grind [w64, IsPrc, ParcelV.pl, AnswerV.zero, OpV.zero]
     ·replace hc17 := dF hc17
      iterate 3 refine Y_skip ?_
      refine Y_pick ?_
      refine Y_move ?_
      iterate 3 refine Y_skip ?_
      refine Y_pick ?_
      refine Y_move ?_
      iterate 3 refine Y_skip ?_
      refine Y_pick ?_
      refine Y_move ?_
      iterate 3 refine Y_skip ?_
      refine Y_pick ?_
      refine Y_move ?_
      iterate 3 refine Y_skip ?_
      refine Y_pick ?_
      refine Y_assign ?_
      refine XD_end ?_
      refine K_then ?_
      refine Y_pk [2] ?_
      refine C_ret ?_
      refine K_retB ?_
      refine K_ret ?_
      refine K_end (.inr rfl) (.tmp rfl .nil) (fun w hw => ?_)
      refine ⟨_, rfl, (hw.c), ?_⟩
      clear hw
      refine congrArg Value.bool (a₁ := _) ?_
      grind [w64, IsPrc, ParcelV.pl, AnswerV.zero, OpV.zero]
    ·replace hc14 := dF hc14
     iterate 4 refine Y_skip ?_
     refine Y_pick ?_
     refine Y_move ?_
     iterate 3 refine Y_skip ?_
     refine Y_pick ?_
     refine Y_move ?_
     iterate 3 refine Y_skip ?_
     refine Y_pick ?_
     refine Y_move ?_
     iterate 3 refine Y_skip ?_
     refine Y_pick ?_
     refine Y_move ?_
     iterate 3 refine Y_skip ?_
     refine Y_pick ?_
     refine Y_move ?_
     iterate 3 refine Y_skip ?_
     refine Y_pick ?_
     refine Y_assign ?_
     refine XD_end ?_
     refine K_then ?_
     refine Y_pk [2] ?_
     refine C_ret ?_
     refine K_retB ?_
     refine K_ret ?_
     refine K_end (.inr rfl) (.tmp rfl .nil) (fun w hw => ?_)
     refine ⟨_, rfl, (hw.c), ?_⟩
     clear hw
     refine congrArg Value.bool (a₁ := _) ?_
     grind [w64, IsPrc, ParcelV.pl, AnswerV.zero, OpV.zero]
   ·replace hc13 := dF hc13
    refine C_seq ?_
    refine C_region (l := [0, 1]) rfl ?_
    refine Y_cmp ?_
    refine Y_assign ?_
    refine XD_end ?_
    refine K_then ?_
    refine Y_pk [80, 27, 6, 5, 4, 2, 1] ?_
    refine C_cond rfl (fun hc22 => ?_) (fun hc22 => ?_)
    ·replace hc22 := dT hc22
     refine C_seq ?_
     refine C_region (l := [0, 1, 2, 3, 4, 5, 6, 7, 8, 9]) rfl ?_
     iterate 2 refine Y_move ?_
     refine XD_part 83 rfl (fun hc23 => ?_) (fun hc23 => ?_)
     ·replace hc23 := dT hc23
      refine Y_move ?_
      refine Y_pick ?_
      refine Y_move ?_
      refine XD_part 86 rfl (fun hc24 => ?_) (fun hc24 => ?_)
      ·replace hc24 := dT hc24
       refine Y_fieldAddr F.foff39_6 ?_
       refine Y_load F.lay37 ?_
       refine X_fs rfl rfl F.ok47 rfl (CelIs_ok _ ⟨_, _, _, ⟨_, _, _⟩⟩ (by assumption)) rfl ?_
       rintro _ rfl
       refine Y_pick ?_
       refine Y_assign ?_
       refine XD_end ?_
       refine K_then ?_
       refine Y_pk [2] ?_
       refine C_ret ?_
       refine K_retB ?_
       refine K_ret ?_
       refine K_end (.inr rfl) (.tmp rfl .nil) (fun w hw => ?_)
       refine ⟨_, rfl, (hw.c), ?_⟩
       clear hw
       refine congrArg Value.bool (a₁ := _) ?_
       grind [w64, IsPrc, ParcelV.pl, AnswerV.zero, OpV.zero]
      ·replace hc24 := dF hc24
       iterate 3 refine Y_skip ?_
       refine Y_pick ?_
       refine Y_assign ?_
       refine XD_end ?_
       refine K_then ?_
       refine Y_pk [2] ?_
       refine C_ret ?_
       refine K_retB ?_
       refine K_ret ?_
       refine K_end (.inr rfl) (.tmp rfl .nil) (fun w hw => ?_)
       refine ⟨_, rfl, (hw.c), ?_⟩
       clear hw
       refine congrArg Value.bool (a₁ := _) ?_
       grind [w64, IsPrc, ParcelV.pl, AnswerV.zero, OpV.zero]
     ·replace hc23 := dF hc23
      refine Y_skip ?_
      refine Y_pick ?_
      refine Y_move ?_
      iterate 3 refine Y_skip ?_
      refine Y_pick ?_
      refine Y_assign ?_
      refine XD_end ?_
      refine K_then ?_
      refine Y_pk [2] ?_
      refine C_ret ?_
      refine K_retB ?_
      refine K_ret ?_
      refine K_end (.inr rfl) (.tmp rfl .nil) (fun w hw => ?_)
      refine ⟨_, rfl, (hw.c), ?_⟩
      clear hw
      refine congrArg Value.bool (a₁ := _) ?_
      grind [w64, IsPrc, ParcelV.pl, AnswerV.zero, OpV.zero]
    ·replace hc22 := dF hc22
     refine C_seq ?_
     refine C_region (l := [0, 1]) rfl ?_
     refine Y_cmp ?_
     refine Y_assign ?_
     refine XD_end ?_
     refine K_then ?_
     refine Y_pk [91, 6, 5, 4, 2, 1] ?_
     refine C_cond rfl (fun hc25 => ?_) (fun hc25 => ?_)
     ·replace hc25 := dT hc25
      refine C_seq ?_
      refine C_region (l := [0, 1, 2, 3, 4, 5, 6, 7, 8, 9, 10, 11, 12]) rfl ?_
      iterate 2 refine Y_move ?_
      refine XD_part 94 rfl (fun hc26 => ?_) (fun hc26 => ?_)
      ·replace hc26 := dT hc26
       refine Y_move ?_
       refine Y_pick ?_
       refine Y_move ?_
       refine XD_part 97 rfl (fun hc27 => ?_) (fun hc27 => ?_)
       ·replace hc27 := dT hc27
        refine Y_move ?_
        refine Y_pick ?_
        refine Y_move ?_
        refine XD_part 100 rfl (fun hc28 => ?_) (fun hc28 => ?_)
        ·replace hc28 := dT hc28
         refine Y_fieldAddr F.foff39_6 ?_
         refine Y_load F.lay37 ?_
         refine X_fs rfl rfl F.ok45 rfl (pbare_ok _ ⟨_, _, _, ⟨_, _, _⟩⟩ (by assumption)) rfl ?_
         rintro _ rfl
         refine Y_pick ?_
         refine Y_assign ?_
         refine XD_end ?_
         refine K_then ?_
         refine Y_pk [2] ?_
         refine C_ret ?_
         refine K_retB ?_
         refine K_ret ?_
         refine K_end (.inr rfl) (.tmp rfl .nil) (fun w hw => ?_)
         refine ⟨_, rfl, (hw.c), ?_⟩
         clear hw
         refine congrArg Value.bool (a₁ := _) ?_
         grind [w64, IsPrc, ParcelV.pl, AnswerV.zero, OpV.zero]
        ·replace hc28 := dF hc28
         iterate 3 refine Y_skip ?_
         refine Y_pick ?_
         refine Y_assign ?_
         refine XD_end ?_
         refine K_then ?_
         refine Y_pk [2] ?_
         refine C_ret ?_
         refine K_retB ?_
         refine K_ret ?_
         refine K_end (.inr rfl) (.tmp rfl .nil) (fun w hw => ?_)
         refine ⟨_, rfl, (hw.c), ?_⟩
         clear hw
         refine congrArg Value.bool (a₁ := _) ?_
         grind [w64, IsPrc, ParcelV.pl, AnswerV.zero, OpV.zero]
       ·replace hc27 := dF hc27
        refine Y_skip ?_
        refine Y_pick ?_
        refine Y_move ?_
        iterate 3 refine Y_skip ?_
        refine Y_pick ?_
        refine Y_assign ?_
        refine XD_end ?_
        refine K_then ?_
        refine Y_pk [2] ?_
        refine C_ret ?_
        refine K_retB ?_
        refine K_ret ?_
        refine K_end (.inr rfl) (.tmp rfl .nil) (fun w hw => ?_)
        refine ⟨_, rfl, (hw.c), ?_⟩
        clear hw
        refine congrArg Value.bool (a₁ := _) ?_
        grind [w64, IsPrc, ParcelV.pl, AnswerV.zero, OpV.zero]
      ·replace hc26 := dF hc26
       refine Y_skip ?_
       refine Y_pick ?_
       refine Y_move ?_
       refine Y_skip ?_
       refine Y_pick ?_
       refine Y_move ?_
       iterate 3 refine Y_skip ?_
       refine Y_pick ?_
       refine Y_assign ?_
       refine XD_end ?_
       refine K_then ?_
       refine Y_pk [2] ?_
       refine C_ret ?_
       refine K_retB ?_
       refine K_ret ?_
       refine K_end (.inr rfl) (.tmp rfl .nil) (fun w hw => ?_)
       refine ⟨_, rfl, (hw.c), ?_⟩
       clear hw
       refine congrArg Value.bool (a₁ := _) ?_
       grind [w64, IsPrc, ParcelV.pl, AnswerV.zero, OpV.zero]
     ·replace hc25 := dF hc25
      refine C_skip ?_
      refine K_out ?_
      refine K_then ?_
      refine Y_pk [2] ?_
      refine C_seq ?_
      refine C_region (l := [0]) rfl ?_
      refine Y_assign ?_
      refine XD_end ?_
      refine K_then ?_
      refine C_ret ?_
      refine K_end (.inr rfl) (.tmp rfl .nil) (fun w hw => ?_)
      refine ⟨_, rfl, (hw.c), ?_⟩
      clear hw
      refine congrArg Value.bool (a₁ := _) ?_
      grind [w64, IsPrc, ParcelV.pl, AnswerV.zero, OpV.zero]

end Go.Proofs.YtpkeilhilpogiaaGreat
/-
  What an operation does to a cell.
-/
set_option linter.unusedSimpArgs false
set_option linter.unusedVariables false
set_option linter.unnecessarySimpa false
set_option maxRecDepth 8000
set_option maxHeartbeats 1000000
namespace Go.Proofs.YtpkeilhilpogiaaGreat
open Go.Esp
theorem F.ok91 : okFn Tryz.prog 91 = true := by kernel_rfl

theorem now_ok (M : Mem) (c : CellV) (code : Int) (hc0 : CellV.ok M c) : Fs Tryz.prog 91 [c.enc, .int .i64 code] M (fun v => v = AnswerV.enc ((⟨code, c.version, c.has, ⟨#[]⟩⟩ : AnswerV))) := by
  obtain ⟨c_version, c_has, c_val, ⟨c_marks_a, c_marks_c, c_marks_l⟩⟩ := c
  have k_c_marks : SlK M MarkV.segs 6 ⟨c_marks_a, c_marks_c, c_marks_l⟩ := hc0.h0
  have s_c_marks : SlM M c_marks_a (c_marks_l.map MarkV.segs) 6 := k_c_marks.h1
  have n_c_marks : (c_marks_l.map MarkV.segs).length = c_marks_l.length := List.length_map ..
  have m_c_marks : c_marks_l.length ≤ 9223372036854775807 := k_c_marks.h2
  have c_c_marks : c_marks_l.length ≤ c_marks_c := k_c_marks.h3
  refine fs_enter Tryz.func91 rfl Tryz.ntmps91 rfl ?_; intro H
  refine C_seq ?_
  refine C_region (l := [0, 1]) rfl ?_
  refine Y_box ?_; intro b1
  refine Y_alloc F.zero34 ?_; intro b2
  refine XD_end ?_
  refine K_then ?_
  refine Y_pk [4, 2, 1] ?_
  refine C_seq ?_
  refine C_region (l := [0, 1, 2, 3, 4, 5, 6]) rfl ?_
  refine Y_move ?_
  refine Y_fieldAddr F.foff37_0 ?_
  refine Y_load F.lay22 ?_
  refine Y_fieldAddr F.foff37_1 ?_
  refine Y_load F.lay4 ?_
  refine X_build rfl rfl F.bld34 (.cons rfl (by constructor) (.cons rfl (by constructor) (.cons rfl (by constructor) .nil))) rfl rfl ?_
  refine Y_store F.lay34 ?_
  refine XD_end ?_
  refine K_then ?_
  refine Y_pk [4] ?_
  refine C_ret ?_
  refine K_end (.inr rfl) (.cell rfl (by repeat first | exact List.Mem.head _ | refine List.Mem.tail _ ?_ | refine List.mem_append_right _ ?_) F.lay34 rfl rfl .nil) (fun w hw => ?_)
  refine ⟨_, rfl, (hw.c), ?_⟩
  clear hw
  rfl

theorem Do_ok (M : Mem) (c : CellV) (o : OpV) (hc0 : CellV.ok M c) : Esp.Fn Tryz.prog 56 [c.enc, o.enc] M (fun M' v => DoE M' v (doC c.pl o)) := by
  obtain ⟨c_version, c_has, c_val, ⟨c_marks_a, c_marks_c, c_marks_l⟩⟩ := c
  obtain ⟨o_client, o_req, o_kind, o_version, o_val⟩ := o
  have k_c_marks : SlK M MarkV.segs 6 ⟨c_marks_a, c_marks_c, c_marks_l⟩ := hc0.h0
  have s_c_marks : SlM M c_marks_a (c_marks_l.map MarkV.segs) 6 := k_c_marks.h1
  have n_c_marks : (c_marks_l.map MarkV.segs).length = c_marks_l.length := List.length_map ..
  have m_c_marks : c_marks_l.length ≤ 9223372036854775807 := k_c_marks.h2
  have c_c_marks : c_marks_l.length ≤ c_marks_c := k_c_marks.h3
  show Esp.Fn _ _ _ _ (fun M' v => DoE M' v (doC (CellV.pl ⟨c_version, c_has, c_val, ⟨c_marks_a, c_marks_c, c_marks_l⟩⟩) ⟨o_client, o_req, o_kind, o_version, o_val⟩))
  refine fn_enter Tryz.func56 rfl Tryz.ntmps56 rfl ?_; intro H
  refine C_seq ?_
  refine C_region (l := [0, 1, 2, 3, 4, 5]) rfl ?_
  refine Y_box ?_; intro b1
  refine Y_box ?_; intro b2
  refine Y_alloc F.zero37 ?_; intro b3
  refine Y_alloc F.zero34 ?_; intro b4
  iterate 2 refine Y_assign ?_
  refine XD_end ?_
  refine K_then ?_
  refine Y_pk [7, 6, 5, 4, 3, 2] ?_
  iterate 2 refine C_seq ?_
  refine C_region (l := [0, 1, 2, 3, 4, 5, 6, 7]) rfl ?_
  refine Y_load F.lay37 ?_
  refine X_fs rfl rfl F.ok47 rfl (CelIs_ok _ ⟨c_version, c_has, c_val, ⟨c_marks_a, c_marks_c, c_marks_l⟩⟩ hc0) rfl ?_
  rintro _ rfl
  refine Y_not ?_
  refine Y_move ?_
  refine XD_part 17 rfl (fun hc5 => ?_) (fun hc5 => ?_)
  ·replace hc5 := nT hc5
   iterate 3 refine Y_skip ?_
   refine Y_pick ?_
   refine XD_end ?_
   refine K_then ?_
   refine Y_pk [21, 7, 6, 5, 4, 3, 2] ?_
   refine C_true rfl ?_
   refine C_seq ?_
   refine C_region (l := [0, 1, 2, 3, 4, 5]) rfl ?_
   refine X_build rfl rfl F.bld37 (.nil) rfl rfl ?_
   refine X_build rfl rfl F.bld34 (.nil) rfl rfl ?_
   refine Y_store F.lay37 ?_
   refine Y_store F.lay34 ?_
   iterate 2 refine Y_assign ?_
   refine XD_end ?_
   refine K_then ?_
   refine Y_pk [7, 6, 5, 4, 3, 2] ?_
   refine C_ret ?_
   refine K_ret ?_
   refine K_end (.inr rfl) (.cell rfl (by repeat first | exact List.Mem.head _ | refine List.Mem.tail _ ?_ | refine List.mem_append_right _ ?_) F.lay37 rfl rfl (.cell rfl (by repeat first | exact List.Mem.head _ | refine List.Mem.tail _ ?_ | refine List.mem_append_right _ ?_) F.lay34 rfl rfl (.tmp rfl (.tmp rfl .nil)))) (fun w hw => ?_)
   refine ⟨_, M, rfl, Mem.le.refl M, hw.c, ?_⟩
   rw [show doC (CellV.pl ⟨c_version, c_has, c_val, ⟨c_marks_a, c_marks_c, c_marks_l⟩⟩) ⟨o_client, o_req, o_kind, o_version, o_val⟩ = (Cel.zero, AnswerV.zero, false, 1) from doC_no (by rintro ⟨g1, g2⟩; contradiction)]
   exact ⟨CellV.zero, rfl, rfl, CellV.zero_ok M⟩
  ·replace hc5 := nF hc5
   refine Y_load F.lay31 ?_
   refine X_fs rfl rfl F.ok44 rfl (IsOp_ok _ ⟨o_client, o_req, o_kind, o_version, o_val⟩) rfl ?_
   rintro _ rfl
   refine Y_not ?_
   refine Y_pick ?_
   refine XD_end ?_
   refine K_then ?_
   refine Y_pk [21, 7, 6, 5, 4, 3, 2] ?_
   refine C_cond rfl (fun hc6 => ?_) (fun hc6 => ?_)
   ·replace hc6 := nT hc6
    refine C_seq ?_
    refine C_region (l := [0, 1, 2, 3, 4, 5]) rfl ?_
    refine X_build rfl rfl F.bld37 (.nil) rfl rfl ?_
    refine X_build rfl rfl F.bld34 (.nil) rfl rfl ?_
    refine Y_store F.lay37 ?_
    refine Y_store F.lay34 ?_
    iterate 2 refine Y_assign ?_
    refine XD_end ?_
    refine K_then ?_
    refine Y_pk [7, 6, 5, 4, 3, 2] ?_
    refine C_ret ?_
    refine K_ret ?_
    refine K_end (.inr rfl) (.cell rfl (by repeat first | exact List.Mem.head _ | refine List.Mem.tail _ ?_ | refine List.mem_append_right _ ?_) F.lay37 rfl rfl (.cell rfl (by repeat first | exact List.Mem.head _ | refine List.Mem.tail _ ?_ | refine List.mem_append_right _ ?_) F.lay34 rfl rfl (.tmp rfl (.tmp rfl .nil)))) (fun w hw => ?_)
    refine ⟨_, M, rfl, Mem.le.refl M, hw.c, ?_⟩
    rw [show doC (CellV.pl ⟨c_version, c_has, c_val, ⟨c_marks_a, c_marks_c, c_marks_l⟩⟩) ⟨o_client, o_req, o_kind, o_version, o_val⟩ = (Cel.zero, AnswerV.zero, false, 1) from doC_no (by rintro ⟨g1, g2⟩; contradiction)]
    exact ⟨CellV.zero, rfl, rfl, CellV.zero_ok M⟩
   ·replace hc6 := nF hc6
    refine C_skip ?_
    refine K_then ?_
    refine Y_pk [7, 6, 5, 4, 3, 2] ?_
    iterate 2 refine C_seq ?_
    have hcc : IsCel (CellV.pl ⟨c_version, c_has, c_val, ⟨c_marks_a, c_marks_c, c_marks_l⟩⟩) := by assumption
    have hoo : IsOp ⟨o_client, o_req, o_kind, o_version, o_val⟩ := by assumption
    have hcm : MarksOk c_marks_l := hcc.2
    have hcl := marks_len hcm
    have hoc : 0 ≤ o_client ∧ o_client ≤ 63 := hoo.1
    refine C_region (l := [0, 1, 2]) rfl ?_
    refine Y_fieldAddr F.foff31_2 ?_
    refine Y_load F.lay3 ?_
    refine Y_cmp ?_
    refine XD_end ?_
    refine K_then ?_
    refine Y_pk [26, 7, 6, 5, 4, 3, 2] ?_
    refine C_cond rfl (fun hc7 => ?_) (fun hc7 => ?_)
    ·replace hc7 := dT hc7
     refine C_seq ?_
     refine C_region (l := [0, 1, 2, 3]) rfl ?_
     refine Y_load F.lay37 ?_
     refine X_fs rfl rfl F.ok91 rfl (now_ok _ ⟨_, _, _, ⟨_, _, _⟩⟩ _ ⟨k_c_marks⟩) rfl ?_
     rintro _ rfl
     refine Y_alloc F.zero34 ?_; intro b8
     refine Y_store F.lay34 ?_
     refine XD_end ?_
     refine K_then ?_
     refine Y_pk [8, 7, 6, 5, 4, 3, 2] ?_
     refine C_seq ?_
     refine C_region (l := [0, 1, 2, 3]) rfl ?_
     refine Y_fieldAddr F.foff37_2 ?_
     refine Y_load F.lay9 ?_
     refine Y_fieldAddr F.foff34_3 ?_
     refine Y_store F.lay9 ?_
     refine XD_end ?_
     refine K_then ?_
     refine Y_pk [8, 7, 6, 5, 4, 3, 2] ?_
     refine C_seq ?_
     refine C_region_anyWR2 (l := [0, 1, 2, 3, 4, 5]) (Hin := [(b3, _)]) (Hin2 := [(b4, _)]) [2, 3] #[0, 0, 1, 7, 15, 31] (by repeat first | exact Rem.here _ | exact Rem.two | apply Rem.skip | apply Rem.over) (by repeat first | exact Rem.here _ | exact Rem.two | apply Rem.skip | apply Rem.over) rfl (by kernel_rfl) (by kernel_rfl) ?_
     refine Y_load F.lay37 ?_
     refine Y_load F.lay34 ?_
     refine X_storeE rfl rfl rfl rfl rfl (by constructor) (by ((try simp only [cat, List.cons_append, List.nil_append, List.append_nil]); (repeat (first | exact flat_nil | refine flat_id ?_ | (refine flat_one ?_ ?_; rfl))); done)) (by repeat first | exact Upd.head | apply Upd.tail | apply Upd.over) F.lay37 rfl rfl (fun _ h => h.c) ?_
     refine X_storeE rfl rfl rfl rfl rfl (by constructor) (by ((try simp only [cat, List.cons_append, List.nil_append, List.append_nil]); (repeat (first | exact flat_nil | refine flat_id ?_ | (refine flat_one ?_ ?_; rfl))); done)) (by repeat first | exact Upd.head | apply Upd.tail | apply Upd.over) F.lay34 rfl rfl (fun _ h => h.c) ?_
     iterate 2 refine Y_assign ?_
     refine XD_end ?_
     refine K_unw ?_
     refine K_then ?_
     refine Y_pk [7, 6, 5, 4, 3, 2] ?_
     refine C_ret ?_
     refine K_ret ?_
     refine K_end (.inr rfl) (.cell rfl (by repeat first | exact List.Mem.head _ | refine List.Mem.tail _ ?_ | refine List.mem_append_right _ ?_) F.lay37 rfl rfl (.cell rfl (by repeat first | exact List.Mem.head _ | refine List.Mem.tail _ ?_ | refine List.mem_append_right _ ?_) F.lay34 rfl rfl (.tmp rfl (.tmp rfl .nil)))) (fun w hw => ?_)
     refine ⟨_, M, rfl, Mem.le.refl M, hw.c, ?_⟩
     rw [doC_get hcc hoo (by assumption)]
     exact ⟨⟨c_version, c_has, c_val, ⟨c_marks_a, c_marks_c, c_marks_l⟩⟩, rfl, rfl, hc0⟩
    ·replace hc7 := dF hc7
     refine C_skip ?_
     refine K_then ?_
     refine Y_pk [7, 6, 5, 4, 3, 2] ?_
     iterate 2 refine C_seq ?_
     refine C_region (l := [0, 1, 2, 3, 4, 5, 6, 7, 8, 9]) rfl ?_
     refine Y_fieldAddr F.foff37_3 ?_
     refine Y_load F.lay35 ?_
     refine Y_fieldAddr F.foff31_0 ?_
     refine Y_load F.lay3 ?_
     refine X_fs rfl rfl F.ok92 rfl (find_ok _ ⟨c_marks_a, c_marks_c, c_marks_l⟩ o_client k_c_marks hcm hoc) rfl ?_
     rintro _ rfl
     refine Y_move ?_
     iterate 2 refine Y_extract ?_
     iterate 2 refine Y_assign ?_
     refine XD_end ?_
     refine K_then ?_
     refine Y_pk [10, 9, 7, 6, 5, 4, 3, 2] ?_
     refine C_seq ?_
     refine C_cutX (α := Bool) (fun b : Bool => [(53, .bool b)]) (fun b : Bool => (b = true → ∃ hi : isM c_marks_l o_client = true, o_req ≤ (c_marks_l[atM c_marks_l o_client]'(isM_lt hi)).req) ∧ (b = false → doC (CellV.pl ⟨c_version, c_has, c_val, ⟨c_marks_a, c_marks_c, c_marks_l⟩⟩) ⟨o_client, o_req, o_kind, o_version, o_val⟩ = goesC (CellV.pl ⟨c_version, c_has, c_val, ⟨c_marks_a, c_marks_c, c_marks_l⟩⟩) ⟨o_client, o_req, o_kind, o_version, o_val⟩)) (.cons (k := 9) rfl (.cons (k := 7) rfl (.cons (k := 6) rfl (.cons (k := 5) rfl (.cons (k := 4) rfl (.cons (k := 3) rfl (.cons (k := 2) rfl .nil))))))) ?_ ?_
     ·skip
      refine C_region_any (l := [0, 1, 2, 3, 4, 5, 6, 7, 8, 9, 10, 11]) #[0, 1, 3, 7, 3, 31, 63, 127, 3, 259, 1023, 2047] _ rfl (by kernel_rfl) (by kernel_rfl) St.drawn (fun _ h => h) ?_
      iterate 2 refine Y_move ?_
      refine XD_part 43 rfl (fun hc9 => ?_) (fun hc9 => ?_)
      ·skip
       simp only [AnswerV.eta, MarkV.eta, CellV.eta, HeldV.eta, WaitV.eta, ServerV.eta, PeerV.eta, OpV.eta, ParcelV.eta, PostV.eta, WorkerV.eta] at hc9
       have hlt9 := isM_lt (l := c_marks_l) (c := o_client) (by assumption)
       refine Y_fieldAddr F.foff37_3 ?_
       refine Y_load F.lay35 ?_
       refine Y_move ?_
       refine X_indexAddr rfl rfl rfl rfl F.elem35 (by rfl) (by omega) (by exact SlM.plain (by assumption) (by (simp; omega))) rfl ?_
       refine X_fieldAddr_el rfl rfl rfl (by exact SlM.plain (by assumption) (by (simp; omega))) F.foff92_1 rfl ?_
       refine X_load_el rfl rfl rfl (by assumption) (by exact row_map (by omega)) F.lay22 rfl rfl rfl ?_
       refine Y_fieldAddr F.foff31_1 ?_
       refine Y_load F.lay22 ?_
       refine Y_cmp ?_
       refine Y_pick ?_
       refine XD_end ?_
       exact K_cutX (decide (o_req ≤ (c_marks_l[atM c_marks_l o_client]).req)) (⟨fun h => ⟨by assumption, of_decide_eq_true h⟩, fun h => by have h6 := of_decide_eq_false h; exact doC_goes hcc hoo (by assumption) (fun m h9 => by have h8 := ofM_yes hcm (c := o_client) (by assumption); replace h9 : ofM c_marks_l o_client = some m := h9; rw [h8] at h9; cases h9; show (c_marks_l[atM c_marks_l o_client]).req < o_req; omega)⟩) (.cons (k := 53) rfl (.cons (k := 9) rfl (.cons (k := 7) rfl (.cons (k := 6) rfl (.cons (k := 5) rfl (.cons (k := 4) rfl (.cons (k := 3) rfl (.cons (k := 2) rfl .nil)))))))) (fun w hw => by first | exact hw | exact hw.c)
      ·skip
       simp only [AnswerV.eta, MarkV.eta, CellV.eta, HeldV.eta, WaitV.eta, ServerV.eta, PeerV.eta, OpV.eta, ParcelV.eta, PostV.eta, WorkerV.eta] at hc9
       iterate 9 refine Y_skip ?_
       refine Y_pick ?_
       refine XD_end ?_
       exact K_cutX (false) (⟨fun h => (by cases h), fun _ => doC_new hcc hoo (by assumption) (ofM_not hcm (by assumption))⟩) (.cons (k := 53) rfl (.cons (k := 9) rfl (.cons (k := 7) rfl (.cons (k := 6) rfl (.cons (k := 5) rfl (.cons (k := 4) rfl (.cons (k := 3) rfl (.cons (k := 2) rfl .nil)))))))) (fun w hw => by first | exact hw | exact hw.c)
     ·rintro b ⟨hb1, hb2⟩
      refine C_cond rfl (fun hc10 => ?_) (fun hc10 => ?_)
      ·skip
       iterate 2 refine C_seq ?_
       obtain ⟨hi9, hge9⟩ := hb1 (by assumption)
       have hlt9 := isM_lt hi9
       refine C_region_any (l := [0, 1, 2, 3, 4, 5, 6, 7, 8]) #[0, 1, 0, 7, 15, 31, 0, 64, 255] _ rfl (by kernel_rfl) (by kernel_rfl) St.drawn (fun _ h => h) ?_
       refine Y_fieldAddr F.foff37_3 ?_
       refine Y_load F.lay35 ?_
       refine Y_move ?_
       refine X_indexAddr rfl rfl rfl rfl F.elem35 (by rfl) (by omega) (by exact SlM.plain (by assumption) (by (simp; omega))) rfl ?_
       refine X_fieldAddr_el rfl rfl rfl (by exact SlM.plain (by assumption) (by (simp; omega))) F.foff92_1 rfl ?_
       refine X_load_el rfl rfl rfl (by assumption) (by exact row_map (by omega)) F.lay22 rfl rfl rfl ?_
       refine Y_fieldAddr F.foff31_1 ?_
       refine Y_load F.lay22 ?_
       refine Y_cmp ?_
       refine XD_end ?_
       refine K_then ?_
       refine Y_pk [62, 9, 7, 6, 5, 4, 3, 2] ?_
       refine C_cond rfl (fun hc11 => ?_) (fun hc11 => ?_)
       ·replace hc11 := dT hc11
        simp only [AnswerV.eta, MarkV.eta, CellV.eta, HeldV.eta, WaitV.eta, ServerV.eta, PeerV.eta, OpV.eta, ParcelV.eta, PostV.eta, WorkerV.eta] at hc11
        simp only [List.get_eq_getElem] at hc11
        refine C_seq ?_
        refine C_region (l := [0, 1, 2, 3, 4, 5]) rfl ?_
        refine Y_load F.lay37 ?_
        refine X_build rfl rfl F.bld34 (.cons rfl (by constructor) .nil) rfl rfl ?_
        refine Y_store F.lay37 ?_
        refine Y_store F.lay34 ?_
        iterate 2 refine Y_assign ?_
        refine XD_end ?_
        refine K_then ?_
        refine Y_pk [7, 6, 9, 5, 4, 3, 2] ?_
        refine C_ret ?_
        iterate 2 refine K_ret ?_
        refine K_end (.inr rfl) (.cell rfl (by repeat first | exact List.Mem.head _ | refine List.Mem.tail _ ?_ | refine List.mem_append_right _ ?_) F.lay37 rfl rfl (.cell rfl (by repeat first | exact List.Mem.head _ | refine List.Mem.tail _ ?_ | refine List.mem_append_right _ ?_) F.lay34 rfl rfl (.tmp rfl (.tmp rfl .nil)))) (fun w hw => ?_)
        refine ⟨_, M, rfl, Mem.le.refl M, hw.c, ?_⟩
        rw [doC_is hcc hoo (by assumption) (ofM_yes hcm (c := o_client) (by assumption)), if_neg (by show ¬ (c_marks_l[atM c_marks_l o_client]).req = o_req; omega), if_pos (by show o_req < (c_marks_l[atM c_marks_l o_client]).req; omega)]
        exact ⟨⟨c_version, c_has, c_val, ⟨c_marks_a, c_marks_c, c_marks_l⟩⟩, rfl, rfl, hc0⟩
       ·replace hc11 := dF hc11
        simp only [AnswerV.eta, MarkV.eta, CellV.eta, HeldV.eta, WaitV.eta, ServerV.eta, PeerV.eta, OpV.eta, ParcelV.eta, PostV.eta, WorkerV.eta] at hc11
        simp only [List.get_eq_getElem] at hc11
        refine C_skip ?_
        refine K_then ?_
        refine Y_pk [9, 7, 6, 5, 4, 3, 2] ?_
        refine C_seq ?_
        refine C_region_anyWR2 (l := [0, 1, 2, 3, 4, 5, 6, 7, 8, 9, 10]) (Hin := [(b3, _)]) (Hin2 := [(b4, _)]) [7, 8] #[0, 0, 2, 0, 14, 30, 62, 1, 255, 511, 1023] (by repeat first | exact Rem.here _ | exact Rem.two | apply Rem.skip | apply Rem.over) (by repeat first | exact Rem.here _ | exact Rem.two | apply Rem.skip | apply Rem.over) rfl (by kernel_rfl) (by kernel_rfl) ?_
        refine Y_load F.lay37 ?_
        refine Y_fieldAddr F.foff37_3 ?_
        refine Y_load F.lay35 ?_
        refine Y_move ?_
        refine X_indexAddr rfl rfl rfl rfl F.elem35 (by rfl) (by omega) (by exact SlM.plain (by assumption) (by (simp; omega))) rfl ?_
        refine X_fieldAddr_el rfl rfl rfl (by exact SlM.plain (by assumption) (by (simp; omega))) F.foff92_2 rfl ?_
        refine X_load_el rfl rfl rfl (by assumption) (by exact row_map (by omega)) F.lay34 rfl rfl rfl ?_
        refine X_storeE rfl rfl rfl rfl rfl (by constructor) (by ((try simp only [cat, List.cons_append, List.nil_append, List.append_nil]); (repeat (first | exact flat_nil | refine flat_id ?_ | (refine flat_one ?_ ?_; rfl))); done)) (by repeat first | exact Upd.head | apply Upd.tail | apply Upd.over) F.lay37 rfl rfl (fun _ h => h.c) ?_
        refine X_storeE rfl rfl rfl rfl rfl (by constructor) (by ((try simp only [cat, List.cons_append, List.nil_append, List.append_nil]); (repeat (first | exact flat_nil | refine flat_id ?_ | (refine flat_one ?_ ?_; rfl))); done)) (by repeat first | exact Upd.head | apply Upd.tail | apply Upd.over) F.lay34 rfl rfl (fun _ h => h.c) ?_
        iterate 2 refine Y_assign ?_
        refine XD_end ?_
        refine K_unw ?_
        refine K_then ?_
        refine Y_pk [7, 6, 5, 4, 3, 2] ?_
        refine C_ret ?_
        refine K_ret ?_
        refine K_end (.inr rfl) (.cell rfl (by repeat first | exact List.Mem.head _ | refine List.Mem.tail _ ?_ | refine List.mem_append_right _ ?_) F.lay37 rfl rfl (.cell rfl (by repeat first | exact List.Mem.head _ | refine List.Mem.tail _ ?_ | refine List.mem_append_right _ ?_) F.lay34 rfl rfl (.tmp rfl (.tmp rfl .nil)))) (fun w hw => ?_)
        refine ⟨_, M, rfl, Mem.le.refl M, hw.c, ?_⟩
        rw [doC_is hcc hoo (by assumption) (ofM_yes hcm (c := o_client) (by assumption)), if_pos (by show (c_marks_l[atM c_marks_l o_client]).req = o_req; omega)]
        exact ⟨⟨c_version, c_has, c_val, ⟨c_marks_a, c_marks_c, c_marks_l⟩⟩, rfl, rfl, hc0⟩
      ·skip
       refine C_skip ?_
       refine K_then ?_
       refine Y_pk [7, 6, 5, 4, 3, 2] ?_
       refine C_seq ?_
       have hgo := hb2 (by assumption)
       refine C_region (l := [0, 1]) rfl ?_
       iterate 2 refine Y_assign ?_
       refine XD_end ?_
       refine K_then ?_
       iterate 2 refine C_seq ?_
       refine C_region (l := [0, 1]) rfl ?_
       refine Y_fieldAddr F.foff31_2 ?_
       refine Y_load F.lay3 ?_
       refine XD_end ?_
       refine K_then ?_
       refine Y_pk [73, 12, 11, 7, 6, 5, 4, 3, 2] ?_
       refine C_block ?_
       refine C_seq ?_
       refine C_block ?_
       refine C_seq ?_
       refine C_block ?_
       iterate 3 refine C_seq ?_
       refine C_region (l := [0, 1]) rfl ?_
       refine Y_cmp ?_
       refine Y_assign ?_
       refine XD_end ?_
       refine K_then ?_
       refine Y_pk [74, 73, 12, 11, 7, 6, 5, 4, 3, 2] ?_
       refine C_part 74 rfl (fun hc12 => ?_) (fun hc12 => ?_)
       ·replace hc12 := dT hc12
        refine C_true rfl ?_
        refine C_skip ?_
        refine K_then ?_
        refine Y_pk [74, 12, 11, 7, 6, 5, 4, 3, 2] ?_
        refine C_true rfl ?_
        refine C_exit ?_
        refine K_exit ?_
        refine K_hit ?_
        refine K_then ?_
        refine Y_pk [12, 11, 7, 6, 5, 4, 3, 2] ?_
        refine C_seq ?_
        refine C_region (l := [0, 1, 2, 3, 4]) rfl ?_
        refine Y_fieldAddr F.foff31_3 ?_
        refine Y_load F.lay22 ?_
        refine Y_fieldAddr F.foff37_0 ?_
        refine Y_load F.lay22 ?_
        refine Y_cmp ?_
        refine XD_end ?_
        refine K_then ?_
        refine Y_pk [81, 12, 11, 7, 6, 5, 4, 3, 2] ?_
        refine C_cond rfl (fun hc13 => ?_) (fun hc13 => ?_)
        ·replace hc13 := nT hc13
         refine C_seq ?_
         refine C_region (l := [0, 1]) rfl ?_
         iterate 2 refine Y_assign ?_
         refine XD_end ?_
         refine K_then ?_
         refine Y_pk [12, 11, 7, 6, 5, 4, 3, 2] ?_
         refine C_exit ?_
         refine K_miss (by decide) ?_
         refine K_exit ?_
         refine K_hit ?_
         refine K_then ?_
         refine C_seq ?_
         refine C_region (l := [0, 1, 2, 3, 4]) rfl ?_
         refine Y_load F.lay37 ?_
         refine Y_move ?_
         refine X_fs rfl rfl F.ok91 rfl (now_ok _ ⟨_, _, _, ⟨_, _, _⟩⟩ _ ⟨k_c_marks⟩) rfl ?_
         rintro _ rfl
         refine Y_alloc F.zero34 ?_; intro b14
         refine Y_store F.lay34 ?_
         refine XD_end ?_
         refine K_then ?_
         refine Y_pk [13, 11, 7, 6, 5, 4, 3, 2] ?_
         refine C_seq ?_
         refine C_region (l := [0, 1, 2, 3, 4, 5, 6, 7, 8, 9, 10]) rfl ?_
         refine Y_fieldAddr F.foff37_3 ?_
         refine Y_load F.lay35 ?_
         refine Y_fieldAddr F.foff31_0 ?_
         refine Y_load F.lay3 ?_
         refine Y_fieldAddr F.foff31_1 ?_
         refine Y_load F.lay22 ?_
         refine Y_load F.lay34 ?_
         refine X_build rfl rfl F.bld92 (.cons rfl (by constructor) (.cons rfl (by constructor) (.cons rfl (by constructor) .nil))) rfl rfl ?_
         refine X_fn rfl rfl F.ok93 rfl (put_ok _ ⟨c_marks_a, c_marks_c, c_marks_l⟩ (⟨o_client, o_req, ⟨8, c_version, c_has, ⟨#[]⟩⟩⟩ : MarkV) k_c_marks hcm (by refine ⟨hoc, ?_⟩; unfold AnsOk; exact ⟨rfl, by first | exact .inl rfl | exact .inr rfl⟩)) rfl ?_
         rintro _ M1 hm1 ⟨⟨q_a, q_c, q_l⟩, rfl, hql, k_q⟩
         simp only at hql
         refine Y_fieldAddr F.foff37_3 ?_
         refine Y_store F.lay35 ?_
         refine XD_end ?_
         refine K_then ?_
         refine Y_pk [13, 11, 7, 6, 5, 4, 2] ?_
         refine C_seq ?_
         refine C_region_anyWR2 (l := [0, 1, 2, 3, 4, 5, 6]) (Hin := [(b3, _)]) (Hin2 := [(b4, _)]) [3, 4] #[0, 0, 0, 1, 11, 31, 63] (by repeat first | exact Rem.here _ | exact Rem.two | apply Rem.skip | apply Rem.over) (by repeat first | exact Rem.here _ | exact Rem.two | apply Rem.skip | apply Rem.over) rfl (by kernel_rfl) (by kernel_rfl) ?_
         refine Y_load F.lay37 ?_
         refine Y_load F.lay34 ?_
         refine Y_move ?_
         refine X_storeE rfl rfl rfl rfl rfl (by constructor) (by ((try simp only [cat, List.cons_append, List.nil_append, List.append_nil]); (repeat (first | exact flat_nil | refine flat_id ?_ | (refine flat_one ?_ ?_; rfl))); done)) (by repeat first | exact Upd.head | apply Upd.tail | apply Upd.over) F.lay37 rfl rfl (fun _ h => h.c) ?_
         refine X_storeE rfl rfl rfl rfl rfl (by constructor) (by ((try simp only [cat, List.cons_append, List.nil_append, List.append_nil]); (repeat (first | exact flat_nil | refine flat_id ?_ | (refine flat_one ?_ ?_; rfl))); done)) (by repeat first | exact Upd.head | apply Upd.tail | apply Upd.over) F.lay34 rfl rfl (fun _ h => h.c) ?_
         iterate 2 refine Y_assign ?_
         refine XD_end ?_
         refine K_unw ?_
         refine K_then ?_
         refine Y_pk [7, 6, 5, 4] ?_
         refine C_ret ?_
         refine K_end (.inr rfl) (.cell rfl (by repeat first | exact List.Mem.head _ | refine List.Mem.tail _ ?_ | refine List.mem_append_right _ ?_) F.lay37 rfl rfl (.cell rfl (by repeat first | exact List.Mem.head _ | refine List.Mem.tail _ ?_ | refine List.mem_append_right _ ?_) F.lay34 rfl rfl (.tmp rfl (.tmp rfl .nil)))) (fun w hw => ?_)
         refine ⟨_, M1, rfl, hm1, hw.c, ?_⟩
         rw [hgo, goesC_no ⟨by show o_kind ≠ 2; omega, by assumption⟩]
         exact ⟨⟨c_version, c_has, c_val, ⟨q_a, q_c, q_l⟩⟩, rfl, by show Cel.mk _ _ _ q_l = _; rw [hql]; rfl, ⟨k_q⟩⟩
        ·replace hc13 := nF hc13
         refine C_skip ?_
         refine K_out ?_
         refine K_then ?_
         refine Y_pk [12, 11, 7, 6, 5, 4, 3, 2] ?_
         refine C_seq ?_
         refine C_region_anyWR (l := [0, 1, 2, 3, 4, 5, 6, 7, 8, 9, 10, 11, 12, 13]) (Hin := [(b1, _)]) [9, 11, 13, 1] #[0, 1, 3, 0, 8, 24, 0, 64, 7, 263, 831, 1855, 4095, 8191] (by repeat first | exact Rem.here _ | exact Rem.two | apply Rem.skip | apply Rem.over) rfl (by kernel_rfl) (by kernel_rfl) ?_
         refine Y_fieldAddr F.foff37_0 ?_
         refine X_loadA rfl rfl rfl rfl (by repeat first | exact List.Mem.head _ | refine List.Mem.tail _ ?_ | refine List.mem_append_right _ ?_) F.lay22 rfl rfl rfl ?_
         refine X_ari rfl rfl rfl rfl rfl (by exact wrap_u64 _) rfl ?_
         obtain ⟨v9, hv9⟩ : ∃ v, w64 (c_version + 1) = v := ⟨_, rfl⟩
         refine XD_is 84 rfl (show _ = Value.int .u64 v9 from congrArg (Value.int .u64) hv9) ?_
         refine Y_fieldAddr F.foff31_2 ?_
         refine Y_load F.lay3 ?_
         refine Y_cmp ?_
         obtain ⟨b9, hb9⟩ : ∃ b, (!decide (o_kind = 4)) = b := ⟨_, rfl⟩
         refine XD_is 87 rfl (show _ = Value.bool b9 from congrArg Value.bool hb9) ?_
         refine Y_fieldAddr F.foff31_4 ?_
         refine Y_load F.lay9 ?_
         refine Y_fieldAddr F.foff37_0 ?_
         refine X_storeE rfl rfl rfl rfl rfl (by constructor) (by ((try simp only [cat, List.cons_append, List.nil_append, List.append_nil]); (repeat (first | exact flat_nil | refine flat_id ?_ | (refine flat_one ?_ ?_; rfl))); done)) (by repeat first | exact Upd.head | apply Upd.tail | apply Upd.over) F.lay22 rfl rfl (fun _ h => h.c) ?_
         refine Y_fieldAddr F.foff37_1 ?_
         refine X_storeE rfl rfl rfl rfl rfl (by constructor) (by ((try simp only [cat, List.cons_append, List.nil_append, List.append_nil]); (repeat (first | exact flat_nil | refine flat_id ?_ | (refine flat_one ?_ ?_; rfl))); done)) (by repeat first | exact Upd.head | apply Upd.tail | apply Upd.over) F.lay4 rfl rfl (fun _ h => h.c) ?_
         refine Y_fieldAddr F.foff37_2 ?_
         refine X_storeE rfl rfl rfl rfl rfl (by constructor) (by ((try simp only [cat, List.cons_append, List.nil_append, List.append_nil]); (repeat (first | exact flat_nil | refine flat_id ?_ | (refine flat_one ?_ ?_; rfl))); done)) (by repeat first | exact Upd.head | apply Upd.tail | apply Upd.over) F.lay9 rfl rfl (fun _ h => h.c) ?_
         refine XD_end ?_
         refine K_unw ?_
         refine K_then ?_
         refine Y_pk [12, 11, 7, 6, 5, 4, 3, 2] ?_
         refine C_exit ?_
         refine K_hit ?_
         refine K_then ?_
         refine C_seq ?_
         refine C_region (l := [0, 1, 2, 3, 4]) rfl ?_
         refine Y_load F.lay37 ?_
         refine Y_move ?_
         refine X_fs rfl rfl F.ok91 rfl (now_ok _ ⟨_, _, _, ⟨_, _, _⟩⟩ _ ⟨k_c_marks⟩) rfl ?_
         rintro _ rfl
         refine Y_alloc F.zero34 ?_; intro b15
         refine Y_store F.lay34 ?_
         refine XD_end ?_
         refine K_then ?_
         refine Y_pk [13, 11, 7, 6, 5, 4, 3, 2] ?_
         refine C_seq ?_
         refine C_region (l := [0, 1, 2, 3, 4, 5, 6, 7, 8, 9, 10]) rfl ?_
         refine Y_fieldAddr F.foff37_3 ?_
         refine Y_load F.lay35 ?_
         refine Y_fieldAddr F.foff31_0 ?_
         refine Y_load F.lay3 ?_
         refine Y_fieldAddr F.foff31_1 ?_
         refine Y_load F.lay22 ?_
         refine Y_load F.lay34 ?_
         refine X_build rfl rfl F.bld92 (.cons rfl (by constructor) (.cons rfl (by constructor) (.cons rfl (by constructor) .nil))) rfl rfl ?_
         refine X_fn rfl rfl F.ok93 rfl (put_ok _ ⟨c_marks_a, c_marks_c, c_marks_l⟩ (⟨o_client, o_req, ⟨0, v9, b9, ⟨#[]⟩⟩⟩ : MarkV) k_c_marks hcm (by refine ⟨hoc, ?_⟩; unfold AnsOk; exact ⟨rfl, by first | exact .inl rfl | exact .inr rfl⟩)) rfl ?_
         rintro _ M1 hm1 ⟨⟨q_a, q_c, q_l⟩, rfl, hql, k_q⟩
         simp only at hql
         refine Y_fieldAddr F.foff37_3 ?_
         refine Y_store F.lay35 ?_
         refine XD_end ?_
         refine K_then ?_
         refine Y_pk [13, 11, 7, 6, 5, 4, 2] ?_
         refine C_seq ?_
         refine C_region_anyWR2 (l := [0, 1, 2, 3, 4, 5, 6]) (Hin := [(b3, _)]) (Hin2 := [(b4, _)]) [3, 4] #[0, 0, 0, 1, 11, 31, 63] (by repeat first | exact Rem.here _ | exact Rem.two | apply Rem.skip | apply Rem.over) (by repeat first | exact Rem.here _ | exact Rem.two | apply Rem.skip | apply Rem.over) rfl (by kernel_rfl) (by kernel_rfl) ?_
         refine Y_load F.lay37 ?_
         refine Y_load F.lay34 ?_
         refine Y_move ?_
         refine X_storeE rfl rfl rfl rfl rfl (by constructor) (by ((try simp only [cat, List.cons_append, List.nil_append, List.append_nil]); (repeat (first | exact flat_nil | refine flat_id ?_ | (refine flat_one ?_ ?_; rfl))); done)) (by repeat first | exact Upd.head | apply Upd.tail | apply Upd.over) F.lay37 rfl rfl (fun _ h => h.c) ?_
         refine X_storeE rfl rfl rfl rfl rfl (by constructor) (by ((try simp only [cat, List.cons_append, List.nil_append, List.append_nil]); (repeat (first | exact flat_nil | refine flat_id ?_ | (refine flat_one ?_ ?_; rfl))); done)) (by repeat first | exact Upd.head | apply Upd.tail | apply Upd.over) F.lay34 rfl rfl (fun _ h => h.c) ?_
         iterate 2 refine Y_assign ?_
         refine XD_end ?_
         refine K_unw ?_
         refine K_then ?_
         refine Y_pk [7, 6, 5, 4] ?_
         refine C_ret ?_
         refine K_end (.inr rfl) (.cell rfl (by repeat first | exact List.Mem.head _ | refine List.Mem.tail _ ?_ | refine List.mem_append_right _ ?_) F.lay37 rfl rfl (.cell rfl (by repeat first | exact List.Mem.head _ | refine List.Mem.tail _ ?_ | refine List.mem_append_right _ ?_) F.lay34 rfl rfl (.tmp rfl (.tmp rfl .nil)))) (fun w hw => ?_)
         refine ⟨_, M1, rfl, hm1, hw.c, ?_⟩
         rw [hgo, goesC_yes (by rintro ⟨g1, g2⟩; replace g1 : o_kind ≠ 2 := g1; replace g2 : o_version ≠ c_version := g2; have h7 := hoo.2; simp only at h7; omega)]
         show DoE _ _ (Cel.mk (w64 (c_version + 1)) ((!decide (o_kind = 4))) o_val (markC _ _ ⟨0, w64 (c_version + 1), (!decide (o_kind = 4)), ⟨#[]⟩⟩), ⟨0, w64 (c_version + 1), (!decide (o_kind = 4)), ⟨#[]⟩⟩, true, 0)
         rw [hv9, hb9]
         exact ⟨⟨v9, b9, o_val, ⟨q_a, q_c, q_l⟩⟩, rfl, by show Cel.mk _ _ _ q_l = _; rw [hql]; rfl, ⟨k_q⟩⟩
       ·replace hc12 := dF hc12
        refine C_false rfl ?_
        refine C_region (l := [0, 1]) rfl ?_
        refine Y_cmp ?_
        refine Y_assign ?_
        refine XD_end ?_
        refine K_then ?_
        refine Y_pk [74, 12, 11, 7, 6, 5, 4, 3, 2] ?_
        refine C_cond rfl (fun hc16 => ?_) (fun hc16 => ?_)
        ·replace hc16 := dT hc16
         refine C_exit ?_
         refine K_exit ?_
         refine K_hit ?_
         refine K_then ?_
         refine Y_pk [12, 11, 7, 6, 5, 4, 3, 2] ?_
         refine C_seq ?_
         refine C_region (l := [0, 1, 2, 3, 4]) rfl ?_
         refine Y_fieldAddr F.foff31_3 ?_
         refine Y_load F.lay22 ?_
         refine Y_fieldAddr F.foff37_0 ?_
         refine Y_load F.lay22 ?_
         refine Y_cmp ?_
         refine XD_end ?_
         refine K_then ?_
         refine Y_pk [81, 12, 11, 7, 6, 5, 4, 3, 2] ?_
         refine C_cond rfl (fun hc17 => ?_) (fun hc17 => ?_)
         ·replace hc17 := nT hc17
          refine C_seq ?_
          refine C_region (l := [0, 1]) rfl ?_
          iterate 2 refine Y_assign ?_
          refine XD_end ?_
          refine K_then ?_
          refine Y_pk [12, 11, 7, 6, 5, 4, 3, 2] ?_
          refine C_exit ?_
          refine K_miss (by decide) ?_
          refine K_exit ?_
          refine K_hit ?_
          refine K_then ?_
          refine C_seq ?_
          refine C_region (l := [0, 1, 2, 3, 4]) rfl ?_
          refine Y_load F.lay37 ?_
          refine Y_move ?_
          refine X_fs rfl rfl F.ok91 rfl (now_ok _ ⟨_, _, _, ⟨_, _, _⟩⟩ _ ⟨k_c_marks⟩) rfl ?_
          rintro _ rfl
          refine Y_alloc F.zero34 ?_; intro b18
          refine Y_store F.lay34 ?_
          refine XD_end ?_
          refine K_then ?_
          refine Y_pk [13, 11, 7, 6, 5, 4, 3, 2] ?_
          refine C_seq ?_
          refine C_region (l := [0, 1, 2, 3, 4, 5, 6, 7, 8, 9, 10]) rfl ?_
          refine Y_fieldAddr F.foff37_3 ?_
          refine Y_load F.lay35 ?_
          refine Y_fieldAddr F.foff31_0 ?_
          refine Y_load F.lay3 ?_
          refine Y_fieldAddr F.foff31_1 ?_
          refine Y_load F.lay22 ?_
          refine Y_load F.lay34 ?_
          refine X_build rfl rfl F.bld92 (.cons rfl (by constructor) (.cons rfl (by constructor) (.cons rfl (by constructor) .nil))) rfl rfl ?_
          refine X_fn rfl rfl F.ok93 rfl (put_ok _ ⟨c_marks_a, c_marks_c, c_marks_l⟩ (⟨o_client, o_req, ⟨8, c_version, c_has, ⟨#[]⟩⟩⟩ : MarkV) k_c_marks hcm (by refine ⟨hoc, ?_⟩; unfold AnsOk; exact ⟨rfl, by first | exact .inl rfl | exact .inr rfl⟩)) rfl ?_
          rintro _ M1 hm1 ⟨⟨q_a, q_c, q_l⟩, rfl, hql, k_q⟩
          simp only at hql
          refine Y_fieldAddr F.foff37_3 ?_
          refine Y_store F.lay35 ?_
          refine XD_end ?_
          refine K_then ?_
          refine Y_pk [13, 11, 7, 6, 5, 4, 2] ?_
          refine C_seq ?_
          refine C_region_anyWR2 (l := [0, 1, 2, 3, 4, 5, 6]) (Hin := [(b3, _)]) (Hin2 := [(b4, _)]) [3, 4] #[0, 0, 0, 1, 11, 31, 63] (by repeat first | exact Rem.here _ | exact Rem.two | apply Rem.skip | apply Rem.over) (by repeat first | exact Rem.here _ | exact Rem.two | apply Rem.skip | apply Rem.over) rfl (by kernel_rfl) (by kernel_rfl) ?_
          refine Y_load F.lay37 ?_
          refine Y_load F.lay34 ?_
          refine Y_move ?_
          refine X_storeE rfl rfl rfl rfl rfl (by constructor) (by ((try simp only [cat, List.cons_append, List.nil_append, List.append_nil]); (repeat (first | exact flat_nil | refine flat_id ?_ | (refine flat_one ?_ ?_; rfl))); done)) (by repeat first | exact Upd.head | apply Upd.tail | apply Upd.over) F.lay37 rfl rfl (fun _ h => h.c) ?_
          refine X_storeE rfl rfl rfl rfl rfl (by constructor) (by ((try simp only [cat, List.cons_append, List.nil_append, List.append_nil]); (repeat (first | exact flat_nil | refine flat_id ?_ | (refine flat_one ?_ ?_; rfl))); done)) (by repeat first | exact Upd.head | apply Upd.tail | apply Upd.over) F.lay34 rfl rfl (fun _ h => h.c) ?_
          iterate 2 refine Y_assign ?_
          refine XD_end ?_
          refine K_unw ?_
          refine K_then ?_
          refine Y_pk [7, 6, 5, 4] ?_
          refine C_ret ?_
          refine K_end (.inr rfl) (.cell rfl (by repeat first | exact List.Mem.head _ | refine List.Mem.tail _ ?_ | refine List.mem_append_right _ ?_) F.lay37 rfl rfl (.cell rfl (by repeat first | exact List.Mem.head _ | refine List.Mem.tail _ ?_ | refine List.mem_append_right _ ?_) F.lay34 rfl rfl (.tmp rfl (.tmp rfl .nil)))) (fun w hw => ?_)
          refine ⟨_, M1, rfl, hm1, hw.c, ?_⟩
          rw [hgo, goesC_no ⟨by show o_kind ≠ 2; omega, by assumption⟩]
          exact ⟨⟨c_version, c_has, c_val, ⟨q_a, q_c, q_l⟩⟩, rfl, by show Cel.mk _ _ _ q_l = _; rw [hql]; rfl, ⟨k_q⟩⟩
         ·replace hc17 := nF hc17
          refine C_skip ?_
          refine K_out ?_
          refine K_then ?_
          refine Y_pk [12, 11, 7, 6, 5, 4, 3, 2] ?_
          refine C_seq ?_
          refine C_region_anyWR (l := [0, 1, 2, 3, 4, 5, 6, 7, 8, 9, 10, 11, 12, 13]) (Hin := [(b1, _)]) [9, 11, 13, 1] #[0, 1, 3, 0, 8, 24, 0, 64, 7, 263, 831, 1855, 4095, 8191] (by repeat first | exact Rem.here _ | exact Rem.two | apply Rem.skip | apply Rem.over) rfl (by kernel_rfl) (by kernel_rfl) ?_
          refine Y_fieldAddr F.foff37_0 ?_
          refine X_loadA rfl rfl rfl rfl (by repeat first | exact List.Mem.head _ | refine List.Mem.tail _ ?_ | refine List.mem_append_right _ ?_) F.lay22 rfl rfl rfl ?_
          refine X_ari rfl rfl rfl rfl rfl (by exact wrap_u64 _) rfl ?_
          obtain ⟨v9, hv9⟩ : ∃ v, w64 (c_version + 1) = v := ⟨_, rfl⟩
          refine XD_is 84 rfl (show _ = Value.int .u64 v9 from congrArg (Value.int .u64) hv9) ?_
          refine Y_fieldAddr F.foff31_2 ?_
          refine Y_load F.lay3 ?_
          refine Y_cmp ?_
          obtain ⟨b9, hb9⟩ : ∃ b, (!decide (o_kind = 4)) = b := ⟨_, rfl⟩
          refine XD_is 87 rfl (show _ = Value.bool b9 from congrArg Value.bool hb9) ?_
          refine Y_fieldAddr F.foff31_4 ?_
          refine Y_load F.lay9 ?_
          refine Y_fieldAddr F.foff37_0 ?_
          refine X_storeE rfl rfl rfl rfl rfl (by constructor) (by ((try simp only [cat, List.cons_append, List.nil_append, List.append_nil]); (repeat (first | exact flat_nil | refine flat_id ?_ | (refine flat_one ?_ ?_; rfl))); done)) (by repeat first | exact Upd.head | apply Upd.tail | apply Upd.over) F.lay22 rfl rfl (fun _ h => h.c) ?_
          refine Y_fieldAddr F.foff37_1 ?_
          refine X_storeE rfl rfl rfl rfl rfl (by constructor) (by ((try simp only [cat, List.cons_append, List.nil_append, List.append_nil]); (repeat (first | exact flat_nil | refine flat_id ?_ | (refine flat_one ?_ ?_; rfl))); done)) (by repeat first | exact Upd.head | apply Upd.tail | apply Upd.over) F.lay4 rfl rfl (fun _ h => h.c) ?_
          refine Y_fieldAddr F.foff37_2 ?_
          refine X_storeE rfl rfl rfl rfl rfl (by constructor) (by ((try simp only [cat, List.cons_append, List.nil_append, List.append_nil]); (repeat (first | exact flat_nil | refine flat_id ?_ | (refine flat_one ?_ ?_; rfl))); done)) (by repeat first | exact Upd.head | apply Upd.tail | apply Upd.over) F.lay9 rfl rfl (fun _ h => h.c) ?_
          refine XD_end ?_
          refine K_unw ?_
          refine K_then ?_
          refine Y_pk [12, 11, 7, 6, 5, 4, 3, 2] ?_
          refine C_exit ?_
          refine K_hit ?_
          refine K_then ?_
          refine C_seq ?_
          refine C_region (l := [0, 1, 2, 3, 4]) rfl ?_
          refine Y_load F.lay37 ?_
          refine Y_move ?_
          refine X_fs rfl rfl F.ok91 rfl (now_ok _ ⟨_, _, _, ⟨_, _, _⟩⟩ _ ⟨k_c_marks⟩) rfl ?_
          rintro _ rfl
          refine Y_alloc F.zero34 ?_; intro b19
          refine Y_store F.lay34 ?_
          refine XD_end ?_
          refine K_then ?_
          refine Y_pk [13, 11, 7, 6, 5, 4, 3, 2] ?_
          refine C_seq ?_
          refine C_region (l := [0, 1, 2, 3, 4, 5, 6, 7, 8, 9, 10]) rfl ?_
          refine Y_fieldAddr F.foff37_3 ?_
          refine Y_load F.lay35 ?_
          refine Y_fieldAddr F.foff31_0 ?_
          refine Y_load F.lay3 ?_
          refine Y_fieldAddr F.foff31_1 ?_
          refine Y_load F.lay22 ?_
          refine Y_load F.lay34 ?_
          refine X_build rfl rfl F.bld92 (.cons rfl (by constructor) (.cons rfl (by constructor) (.cons rfl (by constructor) .nil))) rfl rfl ?_
          refine X_fn rfl rfl F.ok93 rfl (put_ok _ ⟨c_marks_a, c_marks_c, c_marks_l⟩ (⟨o_client, o_req, ⟨0, v9, b9, ⟨#[]⟩⟩⟩ : MarkV) k_c_marks hcm (by refine ⟨hoc, ?_⟩; unfold AnsOk; exact ⟨rfl, by first | exact .inl rfl | exact .inr rfl⟩)) rfl ?_
          rintro _ M1 hm1 ⟨⟨q_a, q_c, q_l⟩, rfl, hql, k_q⟩
          simp only at hql
          refine Y_fieldAddr F.foff37_3 ?_
          refine Y_store F.lay35 ?_
          refine XD_end ?_
          refine K_then ?_
          refine Y_pk [13, 11, 7, 6, 5, 4, 2] ?_
          refine C_seq ?_
          refine C_region_anyWR2 (l := [0, 1, 2, 3, 4, 5, 6]) (Hin := [(b3, _)]) (Hin2 := [(b4, _)]) [3, 4] #[0, 0, 0, 1, 11, 31, 63] (by repeat first | exact Rem.here _ | exact Rem.two | apply Rem.skip | apply Rem.over) (by repeat first | exact Rem.here _ | exact Rem.two | apply Rem.skip | apply Rem.over) rfl (by kernel_rfl) (by kernel_rfl) ?_
          refine Y_load F.lay37 ?_
          refine Y_load F.lay34 ?_
          refine Y_move ?_
          refine X_storeE rfl rfl rfl rfl rfl (by constructor) (by ((try simp only [cat, List.cons_append, List.nil_append, List.append_nil]); (repeat (first | exact flat_nil | refine flat_id ?_ | (refine flat_one ?_ ?_; rfl))); done)) (by repeat first | exact Upd.head | apply Upd.tail | apply Upd.over) F.lay37 rfl rfl (fun _ h => h.c) ?_
          refine X_storeE rfl rfl rfl rfl rfl (by constructor) (by ((try simp only [cat, List.cons_append, List.nil_append, List.append_nil]); (repeat (first | exact flat_nil | refine flat_id ?_ | (refine flat_one ?_ ?_; rfl))); done)) (by repeat first | exact Upd.head | apply Upd.tail | apply Upd.over) F.lay34 rfl rfl (fun _ h => h.c) ?_
          iterate 2 refine Y_assign ?_
          refine XD_end ?_
          refine K_unw ?_
          refine K_then ?_
          refine Y_pk [7, 6, 5, 4] ?_
          refine C_ret ?_
          refine K_end (.inr rfl) (.cell rfl (by repeat first | exact List.Mem.head _ | refine List.Mem.tail _ ?_ | refine List.mem_append_right _ ?_) F.lay37 rfl rfl (.cell rfl (by repeat first | exact List.Mem.head _ | refine List.Mem.tail _ ?_ | refine List.mem_append_right _ ?_) F.lay34 rfl rfl (.tmp rfl (.tmp rfl .nil)))) (fun w hw => ?_)
          refine ⟨_, M1, rfl, hm1, hw.c, ?_⟩
          rw [hgo, goesC_yes (by rintro ⟨g1, g2⟩; replace g1 : o_kind ≠ 2 := g1; replace g2 : o_version ≠ c_version := g2; have h7 := hoo.2; simp only at h7; omega)]
          show DoE _ _ (Cel.mk (w64 (c_version + 1)) ((!decide (o_kind = 4))) o_val (markC _ _ ⟨0, w64 (c_version + 1), (!decide (o_kind = 4)), ⟨#[]⟩⟩), ⟨0, w64 (c_version + 1), (!decide (o_kind = 4)), ⟨#[]⟩⟩, true, 0)
          rw [hv9, hb9]
          exact ⟨⟨v9, b9, o_val, ⟨q_a, q_c, q_l⟩⟩, rfl, by show Cel.mk _ _ _ q_l = _; rw [hql]; rfl, ⟨k_q⟩⟩
        ·replace hc16 := dF hc16
         refine C_skip ?_
         refine K_then ?_
         refine Y_pk [12, 11, 7, 6, 5, 4, 3, 2] ?_
         refine C_exit ?_
         refine K_miss (by decide) ?_
         refine K_exit ?_
         refine K_hit ?_
         refine K_then ?_
         refine C_seq ?_
         refine C_region_anyWR (l := [0, 1, 2, 3, 4, 5, 6, 7, 8, 9, 10, 11, 12, 13]) (Hin := [(b1, _)]) [9, 11, 13, 1] #[0, 1, 3, 0, 8, 24, 0, 64, 7, 263, 831, 1855, 4095, 8191] (by repeat first | exact Rem.here _ | exact Rem.two | apply Rem.skip | apply Rem.over) rfl (by kernel_rfl) (by kernel_rfl) ?_
         refine Y_fieldAddr F.foff37_0 ?_
         refine X_loadA rfl rfl rfl rfl (by repeat first | exact List.Mem.head _ | refine List.Mem.tail _ ?_ | refine List.mem_append_right _ ?_) F.lay22 rfl rfl rfl ?_
         refine X_ari rfl rfl rfl rfl rfl (by exact wrap_u64 _) rfl ?_
         obtain ⟨v9, hv9⟩ : ∃ v, w64 (c_version + 1) = v := ⟨_, rfl⟩
         refine XD_is 84 rfl (show _ = Value.int .u64 v9 from congrArg (Value.int .u64) hv9) ?_
         refine Y_fieldAddr F.foff31_2 ?_
         refine Y_load F.lay3 ?_
         refine Y_cmp ?_
         obtain ⟨b9, hb9⟩ : ∃ b, (!decide (o_kind = 4)) = b := ⟨_, rfl⟩
         refine XD_is 87 rfl (show _ = Value.bool b9 from congrArg Value.bool hb9) ?_
         refine Y_fieldAddr F.foff31_4 ?_
         refine Y_load F.lay9 ?_
         refine Y_fieldAddr F.foff37_0 ?_
         refine X_storeE rfl rfl rfl rfl rfl (by constructor) (by ((try simp only [cat, List.cons_append, List.nil_append, List.append_nil]); (repeat (first | exact flat_nil | refine flat_id ?_ | (refine flat_one ?_ ?_; rfl))); done)) (by repeat first | exact Upd.head | apply Upd.tail | apply Upd.over) F.lay22 rfl rfl (fun _ h => h.c) ?_
         refine Y_fieldAddr F.foff37_1 ?_
         refine X_storeE rfl rfl rfl rfl rfl (by constructor) (by ((try simp only [cat, List.cons_append, List.nil_append, List.append_nil]); (repeat (first | exact flat_nil | refine flat_id ?_ | (refine flat_one ?_ ?_; rfl))); done)) (by repeat first | exact Upd.head | apply Upd.tail | apply Upd.over) F.lay4 rfl rfl (fun _ h => h.c) ?_
         refine Y_fieldAddr F.foff37_2 ?_
         refine X_storeE rfl rfl rfl rfl rfl (by constructor) (by ((try simp only [cat, List.cons_append, List.nil_append, List.append_nil]); (repeat (first | exact flat_nil | refine flat_id ?_ | (refine flat_one ?_ ?_; rfl))); done)) (by repeat first | exact Upd.head | apply Upd.tail | apply Upd.over) F.lay9 rfl rfl (fun _ h => h.c) ?_
         refine XD_end ?_
         refine K_unw ?_
         refine K_then ?_
         refine Y_pk [12, 11, 7, 6, 5, 4, 3, 2] ?_
         refine C_exit ?_
         refine K_hit ?_
         refine K_then ?_
         refine C_seq ?_
         refine C_region (l := [0, 1, 2, 3, 4]) rfl ?_
         refine Y_load F.lay37 ?_
         refine Y_move ?_
         refine X_fs rfl rfl F.ok91 rfl (now_ok _ ⟨_, _, _, ⟨_, _, _⟩⟩ _ ⟨k_c_marks⟩) rfl ?_
         rintro _ rfl
         refine Y_alloc F.zero34 ?_; intro b20
         refine Y_store F.lay34 ?_
         refine XD_end ?_
         refine K_then ?_
         refine Y_pk [13, 11, 7, 6, 5, 4, 3, 2] ?_
         refine C_seq ?_
         refine C_region (l := [0, 1, 2, 3, 4, 5, 6, 7, 8, 9, 10]) rfl ?_
         refine Y_fieldAddr F.foff37_3 ?_
         refine Y_load F.lay35 ?_
         refine Y_fieldAddr F.foff31_0 ?_
         refine Y_load F.lay3 ?_
         refine Y_fieldAddr F.foff31_1 ?_
         refine Y_load F.lay22 ?_
         refine Y_load F.lay34 ?_
         refine X_build rfl rfl F.bld92 (.cons rfl (by constructor) (.cons rfl (by constructor) (.cons rfl (by constructor) .nil))) rfl rfl ?_
         refine X_fn rfl rfl F.ok93 rfl (put_ok _ ⟨c_marks_a, c_marks_c, c_marks_l⟩ (⟨o_client, o_req, ⟨0, v9, b9, ⟨#[]⟩⟩⟩ : MarkV) k_c_marks hcm (by refine ⟨hoc, ?_⟩; unfold AnsOk; exact ⟨rfl, by first | exact .inl rfl | exact .inr rfl⟩)) rfl ?_
         rintro _ M1 hm1 ⟨⟨q_a, q_c, q_l⟩, rfl, hql, k_q⟩
         simp only at hql
         refine Y_fieldAddr F.foff37_3 ?_
         refine Y_store F.lay35 ?_
         refine XD_end ?_
         refine K_then ?_
         refine Y_pk [13, 11, 7, 6, 5, 4, 2] ?_
         refine C_seq ?_
         refine C_region_anyWR2 (l := [0, 1, 2, 3, 4, 5, 6]) (Hin := [(b3, _)]) (Hin2 := [(b4, _)]) [3, 4] #[0, 0, 0, 1, 11, 31, 63] (by repeat first | exact Rem.here _ | exact Rem.two | apply Rem.skip | apply Rem.over) (by repeat first | exact Rem.here _ | exact Rem.two | apply Rem.skip | apply Rem.over) rfl (by kernel_rfl) (by kernel_rfl) ?_
         refine Y_load F.lay37 ?_
         refine Y_load F.lay34 ?_
         refine Y_move ?_
         refine X_storeE rfl rfl rfl rfl rfl (by constructor) (by ((try simp only [cat, List.cons_append, List.nil_append, List.append_nil]); (repeat (first | exact flat_nil | refine flat_id ?_ | (refine flat_one ?_ ?_; rfl))); done)) (by repeat first | exact Upd.head | apply Upd.tail | apply Upd.over) F.lay37 rfl rfl (fun _ h => h.c) ?_
         refine X_storeE rfl rfl rfl rfl rfl (by constructor) (by ((try simp only [cat, List.cons_append, List.nil_append, List.append_nil]); (repeat (first | exact flat_nil | refine flat_id ?_ | (refine flat_one ?_ ?_; rfl))); done)) (by repeat first | exact Upd.head | apply Upd.tail | apply Upd.over) F.lay34 rfl rfl (fun _ h => h.c) ?_
         iterate 2 refine Y_assign ?_
         refine XD_end ?_
         refine K_unw ?_
         refine K_then ?_
         refine Y_pk [7, 6, 5, 4] ?_
         refine C_ret ?_
         refine K_end (.inr rfl) (.cell rfl (by repeat first | exact List.Mem.head _ | refine List.Mem.tail _ ?_ | refine List.mem_append_right _ ?_) F.lay37 rfl rfl (.cell rfl (by repeat first | exact List.Mem.head _ | refine List.Mem.tail _ ?_ | refine List.mem_append_right _ ?_) F.lay34 rfl rfl (.tmp rfl (.tmp rfl .nil)))) (fun w hw => ?_)
         refine ⟨_, M1, rfl, hm1, hw.c, ?_⟩
         rw [hgo, goesC_yes (by rintro ⟨g1, g2⟩; replace g1 : o_kind ≠ 2 := g1; replace g2 : o_version ≠ c_version := g2; have h7 := hoo.2; simp only at h7; omega)]
         show DoE _ _ (Cel.mk (w64 (c_version + 1)) ((!decide (o_kind = 4))) o_val (markC _ _ ⟨0, w64 (c_version + 1), (!decide (o_kind = 4)), ⟨#[]⟩⟩), ⟨0, w64 (c_version + 1), (!decide (o_kind = 4)), ⟨#[]⟩⟩, true, 0)
         rw [hv9, hb9]
         exact ⟨⟨v9, b9, o_val, ⟨q_a, q_c, q_l⟩⟩, rfl, by show Cel.mk _ _ _ q_l = _; rw [hql]; rfl, ⟨k_q⟩⟩

end Go.Proofs.YtpkeilhilpogiaaGreat
/-
  What an operation does to a cell, as the document has it.
-/
set_option linter.unusedSimpArgs false
set_option linter.unusedVariables false
set_option linter.unnecessarySimpa false
set_option maxRecDepth 8000
set_option maxHeartbeats 1000000
namespace Go.Proofs.YtpkeilhilpogiaaGreat
open Go.Esp
end Go.Proofs.YtpkeilhilpogiaaGreat
/-
  Servers, in plain Lean.
-/
set_option linter.unusedSimpArgs false
set_option linter.unusedVariables false
set_option linter.unnecessarySimpa false
namespace Go.Esp
structure Pst where
  to : Int
  parcel : Prc
  deriving DecidableEq
def PostV.pl (p : PostV) : Pst := ⟨p.to, p.parcel.pl⟩
def pstl (l : List PostV) : List Pst := l.map PostV.pl
theorem pstl_len (l : List PostV) : (pstl l).length = l.length := List.length_map ..
structure Wt where
  key : Plc
  client : Int
  req : Int
  answer : AnswerV
  serial : Int
  need : List Int
  deriving DecidableEq
def WaitV.pl (w : WaitV) : Wt := ⟨w.key, w.client, w.req, w.answer, w.serial, w.need.l⟩
def wtl (l : List WaitV) : List Wt := l.map WaitV.pl
theorem wtl_len (l : List WaitV) : (wtl l).length = l.length := List.length_map ..
theorem wtl_at {l : List WaitV} {k : Nat} (hk : k < l.length) : (wtl l)[k]'(by rw [wtl_len]; exact hk) = WaitV.pl l[k] := by unfold wtl; rw [List.getElem_map]
structure Srv where
  addr : Int
  epoch : Int
  store : List Hd
  waits : List Wt
  serial : Int
  deriving DecidableEq
def Srv.zero : Srv := ⟨0, 0, [], [], 0⟩
def ServerV.pl (s : ServerV) : Srv := ⟨s.addr, s.epoch, pls s.store.l, wtl s.waits.l, s.serial⟩
/-- May one wait? -/
def NeedOk (l : List Int) : Prop := (∀ a ∈ l, 0 ≤ a ∧ a ≤ 999) ∧ l.Pairwise (fun x y => x < y)
instance (l : List Int) : Decidable (NeedOk l) := by unfold NeedOk; exact inferInstance
def WtOk (w : Wt) : Prop := NeedOk w.need ∧ (1 ≤ w.need.length ∧ w.need.length ≤ 8) ∧ (0 ≤ w.client ∧ w.client ≤ 63) ∧ w.answer.val = ⟨#[]⟩ ∧ w.answer.code = 0
instance (w : Wt) : Decidable (WtOk w) := by unfold WtOk; exact inferInstance
def WtsOk (l : List Wt) : Prop := (∀ w ∈ l, WtOk w) ∧ l.Pairwise (fun x y => LessP x.key y.key)
instance (l : List Wt) : Decidable (WtsOk l) := by unfold WtsOk; exact inferInstance
def IsSrv (s : Srv) : Prop := WtsOk s.waits ∧ (0 ≤ s.addr ∧ s.addr ≤ 999) ∧ IsSt s.store
instance (s : Srv) : Decidable (IsSrv s) := by unfold IsSrv; exact inferInstance
theorem need_take {l : List Int} {k : Nat} (hk : k < l.length) : NeedOk (l.take (k + 1)) ↔ NeedOk (l.take k) ∧ (0 ≤ l[k] ∧ l[k] ≤ 999) ∧ ∀ h : 0 < k, l[k - 1]'(by omega) < l[k] := by
  have e : l.take (k + 1) = l.take k ++ [l[k]] := by rw [List.take_add_one, List.getElem?_eq_getElem hk]; rfl
  rw [e]
  unfold NeedOk
  simp only [List.mem_append, List.mem_singleton, List.pairwise_append, List.pairwise_singleton]
  constructor
  · rintro ⟨h1, h2, _, h3⟩
    refine ⟨⟨fun m hm => h1 m (.inl hm), h2⟩, h1 _ (.inr rfl), fun h => h3 _ ?_ _ rfl⟩
    rw [List.mem_take_iff_getElem]
    exact ⟨k - 1, by omega, rfl⟩
  · rintro ⟨⟨h1, h2⟩, h3, h4⟩
    refine ⟨fun m hm => ?_, h2, trivial, fun m hm q hq => ?_⟩
    · rcases hm with hm | rfl
      · exact h1 m hm
      · exact h3
    · subst hq
      rw [List.mem_take_iff_getElem] at hm
      obtain ⟨j, hj, rfl⟩ := hm
      have hjk : j < k := by omega
      have hlast := h4 (by omega)
      rcases Nat.lt_or_ge j (k - 1) with h | h
      · have := (List.pairwise_iff_getElem.1 h2) j (k - 1) (by simp; omega) (by simp; omega) h
        simp only [List.getElem_take] at this
        omega
      · have : j = k - 1 := by omega
        subst this; exact hlast
theorem need_pre {l : List Int} (h : NeedOk l) (k : Nat) : NeedOk (l.take k) := ⟨fun m hm => h.1 m (List.mem_of_mem_take hm), h.2.sublist (List.take_sublist k l)⟩
theorem wts_take {s : List Wt} {k : Nat} (hk : k < s.length) : WtsOk (s.take (k + 1)) ↔ WtsOk (s.take k) ∧ WtOk s[k] ∧ ∀ h : 0 < k, LessP (s[k - 1]'(by omega)).key s[k].key := by
  have e : s.take (k + 1) = s.take k ++ [s[k]] := by rw [List.take_add_one, List.getElem?_eq_getElem hk]; rfl
  rw [e]
  unfold WtsOk
  simp only [List.mem_append, List.mem_singleton, List.pairwise_append, List.pairwise_singleton]
  constructor
  · rintro ⟨h1, h2, _, h3⟩
    refine ⟨⟨fun m hm => h1 m (.inl hm), h2⟩, h1 _ (.inr rfl), fun h => h3 _ ?_ _ rfl⟩
    rw [List.mem_take_iff_getElem]
    exact ⟨k - 1, by omega, rfl⟩
  · rintro ⟨⟨h1, h2⟩, h3, h4⟩
    refine ⟨fun m hm => ?_, h2, trivial, fun m hm q hq => ?_⟩
    · rcases hm with hm | rfl
      · exact h1 m hm
      · exact h3
    · subst hq
      rw [List.mem_take_iff_getElem] at hm
      obtain ⟨j, hj, rfl⟩ := hm
      have hjk : j < k := by omega
      have hlast := h4 (by omega)
      rcases Nat.lt_or_ge j (k - 1) with h | h
      · have := (List.pairwise_iff_getElem.1 h2) j (k - 1) (by simp; omega) (by simp; omega) h
        simp only [List.getElem_take] at this
        exact Nat.lt_trans this hlast
      · have : j = k - 1 := by omega
        subst this; exact hlast
theorem wts_pre {s : List Wt} (h : WtsOk s) (k : Nat) : WtsOk (s.take k) := ⟨fun m hm => h.1 m (List.mem_of_mem_take hm), h.2.sublist (List.take_sublist k s)⟩
/-! What a server does. -/
/-- The addresses, rising, of the others that keep a key. -/
def addrsR (l : List PeerV) (c : List Int) : List Int := (c.drop 1).map fun i => (l.getD i.toNat ⟨0, 0⟩).addr
def uptoR (ad : List Int) (n : Nat) : List Int := ((List.range n).map fun a : Nat => (a : Int)).filter fun a => decide (a ∈ ad)
def othersR (l : List PeerV) (r : Int) (key : Plc) : List Int := uptoR (addrsR l (copiesR l key r).1) 1000
theorem upto_len {ad : List Int} {n : Nat} : (uptoR ad n).length ≤ n := by
  unfold uptoR
  exact Nat.le_trans (List.length_filter_le ..) (by simp)
theorem addrs_at {l : List PeerV} {c : List Int} {k : Nat} (h1 : 1 ≤ k) (hk : k < c.length) {i0 : Nat} (e : c[k] = (i0 : Int)) (hi : i0 < l.length) : (addrsR l c)[k - 1]? = some l[i0].addr := by
  unfold addrsR
  rw [List.getElem?_map, List.getElem?_drop, show 1 + (k - 1) = k by omega, List.getElem?_eq_getElem hk, e]
  simp [hi]
theorem addrs_len {l : List PeerV} {c : List Int} : (addrsR l c).length = c.length - 1 := by simp [addrsR]
theorem addrs_nodup {l : List PeerV} (hl : IsCircle l) {c : List Int} (hn : c.Nodup) (hc : ∀ j (hj : j < c.length), ∃ i : Nat, c[j] = (i : Int) ∧ i < l.length) : (addrsR l c).Nodup := by
  rw [List.Nodup, List.pairwise_iff_getElem]
  intro i j hi hj hij e
  rw [addrs_len] at hi hj
  obtain ⟨a, ha, hal⟩ := hc (i + 1) (by omega)
  obtain ⟨b, hb, hbl⟩ := hc (j + 1) (by omega)
  have h1 := addrs_at (l := l) (k := i + 1) (by omega) (by omega) ha hal
  have h2 := addrs_at (l := l) (k := j + 1) (by omega) (by omega) hb hbl
  simp only [Nat.add_sub_cancel] at h1 h2
  rw [List.getElem?_eq_getElem (by rw [addrs_len]; omega)] at h1 h2
  have e2 : l[a].addr = l[b].addr := by rw [← Option.some.inj h1, ← Option.some.inj h2]; exact e
  have hnd := hl.2.2.1
  rw [List.Nodup, List.pairwise_iff_getElem] at hnd
  have hab : a = b := by
    rcases Nat.lt_trichotomy a b with h | h | h
    · exact absurd (by rw [List.getElem_map, List.getElem_map]; exact e2) (hnd a b (by simpa using hal) (by simpa using hbl) h)
    · exact h
    · exact absurd (by rw [List.getElem_map, List.getElem_map]; exact e2.symm) (hnd b a (by simpa using hbl) (by simpa using hal) h)
  subst hab
  exact (List.pairwise_iff_getElem.1 hn) (i + 1) (j + 1) (by omega) (by omega) (by omega) (ha.trans hb.symm)
def replyR (s : Srv) (client req : Int) (a : AnswerV) : Pst := ⟨1000 + client, ⟨2, s.epoch, 0, ⟨client, req, 0, 0, ⟨#[]⟩⟩, a, 0, Cel.zero⟩⟩
def copiesP (s : Srv) (key : Plc) (serial : Int) (to : List Int) : List Pst := to.map fun t => ⟨t, ⟨3, s.epoch, key, OpV.zero, AnswerV.zero, serial, (findP s.store key).1⟩⟩
def waitR (l : List Wt) (w : Wt) : List Wt := (l.takeWhile fun x => decide (LessP x.key w.key)) ++ w :: l.dropWhile fun x => decide (LessP x.key w.key)
def requestR (s : Srv) (l : List PeerV) (r : Int) (p : Prc) : Srv × List Pst :=
  if (l.getD (ownerI l p.key) ⟨0, 0⟩).addr ≠ s.addr then (s, [replyR s p.op.client p.op.req ⟨7, 0, false, ⟨#[]⟩⟩])
  else match s.waits.find? fun w => decide (w.key = p.key) with
    | some w => (s, copiesP s p.key w.serial w.need)
    | none =>
      let d := doC (findP s.store p.key).1 p.op
      if p.op.kind = 1 then (s, [replyR s p.op.client p.op.req d.2.1])
      else
        let q := putR s.store p.key d.1
        if q.2 ≠ 0 then (s, [])
        else
          let t : Srv := { s with store := q.1 }
          let to := othersR l r p.key
          if d.2.2.1 = false ∨ to = [] then (t, [replyR t p.op.client p.op.req d.2.1])
          else
            let u : Srv := { t with serial := w64 (s.serial + 1), waits := waitR s.waits ⟨p.key, p.op.client, p.op.req, d.2.1, w64 (s.serial + 1), to⟩ }
            (u, copiesP u p.key (w64 (s.serial + 1)) to)
def copyM (s : Srv) (p : Prc) : Cel := match findS s.store p.key with
  | some c => mergedT c p.cell
  | none => p.cell
def copyR (s : Srv) (from_ : Int) (p : Prc) : Srv × List Pst :=
  let q := putR s.store p.key (copyM s p)
  if q.2 ≠ 0 then (s, []) else ({ s with store := q.1 }, [⟨from_, ⟨4, s.epoch, 0, OpV.zero, AnswerV.zero, p.serial, Cel.zero⟩⟩])
def notI (f n : Int) : Bool := decide (n ≠ f)
theorem notI_t {f n : Int} (h : ¬ n = f) : notI f n = true := decide_eq_true h
theorem notI_f {f n : Int} (h : n = f) : notI f n = false := decide_eq_false (fun e => e h)
def lessN (w : Wt) (from_ : Int) : List Int := w.need.filter (notI from_)
def stays1 (from_ serial : Int) (w : Wt) : Option Wt := if w.serial ≠ serial then some w else if lessN w from_ = [] then none else some { w with need := lessN w from_ }
def done1 (s : Srv) (from_ serial : Int) (w : Wt) : Option Pst := if w.serial = serial ∧ lessN w from_ = [] then some (replyR s w.client w.req w.answer) else none
def copiedR (s : Srv) (from_ serial : Int) : Srv × List Pst := ({ s with waits := s.waits.filterMap (stays1 from_ serial) }, s.waits.filterMap (done1 s from_ serial))
def srvR (s : Srv) (l : List PeerV) (r from_ : Int) (p : Prc) : Srv × List Pst × Int :=
  if IsSrv s ∧ IsCircle l ∧ (1 ≤ r ∧ r ≤ 8) ∧ IsPrc p then
    if p.epoch ≠ s.epoch then (s, [], 0)
    else if p.kind = 1 then ((requestR s l r p).1, (requestR s l r p).2, 0)
    else if p.kind = 3 then ((copyR s from_ p).1, (copyR s from_ p).2, 0)
    else if p.kind = 4 then ((copiedR s from_ p.serial).1, (copiedR s from_ p.serial).2, 0)
    else (s, [], 0)
  else (Srv.zero, [], 1)
theorem waitR_at {l : List Wt} {w : Wt} {k : Nat} (hk : k ≤ l.length) (h1 : ∀ j (h : j < l.length), j < k → LessP l[j].key w.key) (h2 : ∀ h : k < l.length, ¬ LessP l[k].key w.key) : waitR l w = l.take k ++ w :: l.drop k := by
  have hp : ∀ x ∈ l.take k, (fun x : Wt => decide (LessP x.key w.key)) x = true := fun x hx => by
    rw [List.mem_take_iff_getElem] at hx
    obtain ⟨j, hj, rfl⟩ := hx
    exact decide_eq_true (h1 j (by omega) (by omega))
  have hd : (l.drop k).takeWhile (fun x => decide (LessP x.key w.key)) = [] ∧ (l.drop k).dropWhile (fun x => decide (LessP x.key w.key)) = l.drop k := by
    rcases Nat.lt_or_ge k l.length with h9 | h9
    · rw [List.drop_eq_getElem_cons h9, List.takeWhile_cons, List.dropWhile_cons, if_neg (by simpa using h2 h9), if_neg (by simpa using h2 h9)]; exact ⟨rfl, rfl⟩
    · rw [List.drop_eq_nil_of_le h9]; exact ⟨rfl, rfl⟩
  unfold waitR
  have e1 : l.takeWhile (fun x => decide (LessP x.key w.key)) = l.take k := by
    conv => lhs; rw [← List.take_append_drop k l]
    rw [List.takeWhile_append_of_pos hp, hd.1, List.append_nil]
  have e2 : l.dropWhile (fun x => decide (LessP x.key w.key)) = l.drop k := by
    conv => lhs; rw [← List.take_append_drop k l]
    rw [List.dropWhile_append_of_pos hp, hd.2]
  rw [e1, e2]
/-- Posts handed back. -/
def PstsE (M : Mem) (v : Value) (r : List Pst) : Prop := ∃ x : Sl PostV, v = x.val ∧ pstl x.l = r ∧ SlK M PostV.segs 37 x ∧ ∀ y ∈ x.l, PostV.ok M y
theorem PstsE.nil {M : Mem} : PstsE M (.slice none 0 0) [] := ⟨⟨none, 0, []⟩, rfl, rfl, SlK.nil, fun y hy => by cases hy⟩
/-- A server handed back, posts, and an error. -/
def SrvE (M : Mem) (v : Value) (r : Srv × List Pst × Int) : Prop := ∃ (s : ServerV) (x : Sl PostV), v = .tuple #[s.enc, x.val, .int .i64 r.2.2] ∧ s.pl = r.1 ∧ pstl x.l = r.2.1 ∧ ServerV.ok M s ∧ SlK M PostV.segs 37 x ∧ ∀ y ∈ x.l, PostV.ok M y
/-! Where something waits. -/
def thanI (w : Plc) (key : Plc) : Int := if w = key then 0 else if LessP w key then -1 else 1
theorem than_nn {a k : Plc} : 0 ≤ thanI a k ↔ ¬ LessP a k := by
  unfold thanI
  by_cases h : a = k
  · subst h
    rw [if_pos rfl]
    exact ⟨fun _ h2 => Nat.lt_irrefl _ h2, fun _ => Int.le_refl _⟩
  · rw [if_neg h]
    by_cases h2 : LessP a k
    · rw [if_pos h2]; exact ⟨fun h3 => by omega, fun h3 => absurd h2 h3⟩
    · rw [if_neg h2]; exact ⟨fun _ => h2, fun _ => by decide⟩
theorem than_zero {a k : Plc} : thanI a k = 0 ↔ a = k := by
  unfold thanI
  by_cases h : a = k
  · rw [if_pos h]; exact ⟨fun _ => h, fun _ => rfl⟩
  · rw [if_neg h]
    refine ⟨fun h3 => ?_, fun h3 => absurd h3 h⟩
    by_cases h2 : LessP a k
    · rw [if_pos h2] at h3; cases h3
    · rw [if_neg h2] at h3; cases h3
end Go.Esp
/-
  What may wait; what a server is.
-/
set_option linter.unusedSimpArgs false
set_option linter.unusedVariables false
set_option linter.unnecessarySimpa false
set_option maxRecDepth 8000
set_option maxHeartbeats 1000000
namespace Go.Proofs.YtpkeilhilpogiaaGreat
open Go.Esp
theorem F.elem24 : slOf Tryz.prog 24 = some (54, 28, 112) := by kernel_rfl
theorem F.foff26_0 : foff Tryz.prog 26 0 = some 0 := by kernel_rfl
theorem F.foff26_2 : foff Tryz.prog 26 2 = some 2 := by kernel_rfl
theorem F.foff26_3 : foff Tryz.prog 26 3 = some 3 := by kernel_rfl
theorem F.foff54_0 : foff Tryz.prog 54 0 = some 0 := by kernel_rfl
theorem F.foff54_1 : foff Tryz.prog 54 1 = some 20 := by kernel_rfl
theorem F.foff54_3 : foff Tryz.prog 54 3 = some 22 := by kernel_rfl
theorem F.foff54_5 : foff Tryz.prog 54 5 = some 27 := by kernel_rfl
theorem F.foff81_0 : foff Tryz.prog 81 0 = some 0 := by kernel_rfl
theorem F.foff81_1 : foff Tryz.prog 81 1 = some 20 := by kernel_rfl
theorem F.foff81_3 : foff Tryz.prog 81 3 = some 22 := by kernel_rfl
theorem F.foff81_5 : foff Tryz.prog 81 5 = some 27 := by kernel_rfl
theorem F.lay24 : lay Tryz.prog 24 = some (false, 1) := by kernel_rfl
theorem F.lay52 : lay Tryz.prog 52 = some (false, 1) := by kernel_rfl
theorem F.lay54 : lay Tryz.prog 54 = some (true, 28) := by kernel_rfl
theorem F.ok36 : okFn Tryz.prog 36 = true := by kernel_rfl
theorem F.zero54 : zeroOf Tryz.prog 54 = some (aggV [idSeg 0, .one (.int .i64 0), .one (.int .u64 0), .one (.int .i64 0), .one (.int .u64 0), .one (.bool false), .one (.string ⟨#[]⟩), .one (.int .u64 0), .one (.slice none 0 0)]) := by rw [idSeg0]; kernel_rfl

theorem right_ok (M : Mem) (w : WaitV) (hw0 : WaitV.ok M w) : Fs Tryz.prog 36 [w.enc] M (fun v => v = Value.bool (decide (WtOk w.pl))) := by
  obtain ⟨w_key, w_client, w_req, ⟨w_answer_code, w_answer_version, w_answer_has, w_answer_val⟩, w_serial, ⟨w_need_a, w_need_c, w_need_l⟩⟩ := w
  have k_w_need : SlK M (oneI .i64) 1 ⟨w_need_a, w_need_c, w_need_l⟩ := hw0.h0
  have s_w_need : SlM M w_need_a (w_need_l.map (oneI .i64)) 1 := k_w_need.h1
  have n_w_need : (w_need_l.map (oneI .i64)).length = w_need_l.length := List.length_map ..
  have m_w_need : w_need_l.length ≤ 9223372036854775807 := k_w_need.h2
  have c_w_need : w_need_l.length ≤ w_need_c := k_w_need.h3
  refine fs_enter Tryz.func36 rfl Tryz.ntmps36 rfl ?_; intro H
  refine C_seq ?_
  refine C_region (l := [0, 1]) rfl ?_
  refine Y_box ?_; intro b1
  refine Y_assign ?_
  refine XD_end ?_
  refine K_then ?_
  refine Y_pk [2, 1] ?_
  refine C_seq ?_
  refine C_region (l := [0]) rfl ?_
  refine Y_assign ?_
  refine XD_end ?_
  refine K_then ?_
  iterate 2 refine C_seq ?_
  refine C_region (l := [0, 1, 2, 3]) rfl ?_
  refine Y_fieldAddr F.foff81_5 ?_
  refine Y_load F.lay52 ?_
  refine Y_len_sl F.elem52 ?_
  refine Y_move ?_
  refine XD_end ?_
  refine K_then ?_
  refine Y_pk [9, 8, 7, 3, 2, 1] ?_
  refine C_block ?_
  refine Y_pk [9, 3, 8, 7, 2, 1] ?_
  refine C_loopS (.succ (.succ .zero)) (fun (k : Nat) z => ∃ (last : Int), z = [(9, .int .i64 (k : Int)), (3, .int .i64 last)] ∧ k ≤ w_need_l.length ∧ (NeedOk (w_need_l.take k) ∧ (k = 0 → last = -1) ∧ (0 < k → w_need_l[k - 1]? = some last))) (fun k => w_need_l.length - k) (0) (⟨-1, rfl, by omega, by (refine ⟨⟨fun m hm => by simp at hm, by simp⟩, fun _ => rfl, fun h => by omega⟩)⟩) ?_
  rintro k _ ⟨last, rfl, hk, hI⟩
  refine C_seq ?_
  refine C_region (l := [0]) rfl ?_
  refine Y_cmp ?_
  refine XD_end ?_
  refine K_then ?_
  refine C_seq ?_
  refine C_cond rfl (fun hc2 => ?_) (fun hc2 => ?_)
  ·replace hc2 := dT hc2
   refine C_skip ?_
   refine K_then ?_
   refine C_seq ?_
   refine C_block ?_
   refine C_seq ?_
   refine C_region (l := [0, 1, 2]) rfl ?_
   refine X_indexAddr rfl rfl rfl rfl F.elem52 (by rfl) (by omega) (by exact SlM.plain (by assumption) (by (simp; omega))) rfl ?_
   refine X_load_el rfl rfl rfl (by assumption) (by exact row_map (by omega)) F.lay3 rfl rfl rfl ?_
   refine Y_assign ?_
   refine XD_end ?_
   refine K_then ?_
   iterate 2 refine C_seq ?_
   refine C_region (l := [0, 1, 2, 3, 4, 5, 6]) rfl ?_
   iterate 2 refine Y_move ?_
   refine Y_cmp ?_
   refine Y_move ?_
   refine XD_part 16 rfl (fun hc3 => ?_) (fun hc3 => ?_)
   ·replace hc3 := dT hc3
    iterate 2 refine Y_skip ?_
    refine Y_pick ?_
    refine XD_end ?_
    refine K_then ?_
    refine C_true rfl ?_
    refine C_seq ?_
    refine C_region (l := [0]) rfl ?_
    refine Y_assign ?_
    refine XD_end ?_
    refine K_then ?_
    refine C_ret ?_
    refine K_ret ?_
    refine K_retB ?_
    iterate 2 refine K_ret ?_
    refine K_retB ?_
    refine K_ret ?_
    refine K_end (.inr rfl) (.tmp rfl .nil) (fun w hw => ?_)
    refine ⟨_, rfl, (hw.c), ?_⟩
    clear hw
    show _ = Value.bool (decide (NeedOk w_need_l ∧ (1 ≤ w_need_l.length ∧ w_need_l.length ≤ 8) ∧ (0 ≤ w_client ∧ w_client ≤ 63) ∧ w_answer_val = ⟨#[]⟩ ∧ w_answer_code = 0))
    refine congrArg Value.bool ?_
    refine (decide_eq_false (fun h9 => ?_)).symm
    obtain ⟨g1, g2, g3, g4, g5⟩ := h9
    have hl9 : 0 < k → (w_need_l[k - 1]'(by omega)) = last := fun h0 => by
     have h8 := hI.2.2 h0
     rw [List.getElem?_eq_getElem (by omega)] at h8
     exact Option.some.inj h8
    obtain ⟨_, g6, g7⟩ := (need_take (l := w_need_l) (k := k) (by omega)).1 (need_pre g1 (k + 1))
    rcases Nat.eq_zero_or_pos k with h0 | h0
    ·have h1 := hI.2.1 h0
     omega
    ·have h1 := hl9 h0
     have h2 := g7 h0
     omega
   ·replace hc3 := dF hc3
    refine Y_move ?_
    refine Y_cmp ?_
    refine Y_pick ?_
    refine XD_end ?_
    refine K_then ?_
    refine C_cond rfl (fun hc4 => ?_) (fun hc4 => ?_)
    ·replace hc4 := dT hc4
     refine C_seq ?_
     refine C_region (l := [0]) rfl ?_
     refine Y_assign ?_
     refine XD_end ?_
     refine K_then ?_
     refine C_ret ?_
     refine K_ret ?_
     refine K_retB ?_
     iterate 2 refine K_ret ?_
     refine K_retB ?_
     refine K_ret ?_
     refine K_end (.inr rfl) (.tmp rfl .nil) (fun w hw => ?_)
     refine ⟨_, rfl, (hw.c), ?_⟩
     clear hw
     show _ = Value.bool (decide (NeedOk w_need_l ∧ (1 ≤ w_need_l.length ∧ w_need_l.length ≤ 8) ∧ (0 ≤ w_client ∧ w_client ≤ 63) ∧ w_answer_val = ⟨#[]⟩ ∧ w_answer_code = 0))
     refine congrArg Value.bool ?_
     refine (decide_eq_false (fun h9 => ?_)).symm
     obtain ⟨g1, g2, g3, g4, g5⟩ := h9
     have hl9 : 0 < k → (w_need_l[k - 1]'(by omega)) = last := fun h0 => by
      have h8 := hI.2.2 h0
      rw [List.getElem?_eq_getElem (by omega)] at h8
      exact Option.some.inj h8
     obtain ⟨_, g6, g7⟩ := (need_take (l := w_need_l) (k := k) (by omega)).1 (need_pre g1 (k + 1))
     rcases Nat.eq_zero_or_pos k with h0 | h0
     ·have h1 := hI.2.1 h0
      omega
     ·have h1 := hl9 h0
      have h2 := g7 h0
      omega
    ·replace hc4 := dF hc4
     refine C_skip ?_
     refine K_then ?_
     refine C_region (l := [0, 1]) rfl ?_
     refine Y_move ?_
     refine Y_assign ?_
     refine XD_end ?_
     refine K_out ?_
     refine K_then ?_
     refine C_region (l := [0, 1]) rfl ?_
     refine X_ari rfl rfl rfl rfl rfl (by exact wrap_in (by decide) (by omega)) rfl ?_
     refine Y_move ?_
     refine XD_end ?_
     have hl9 : 0 < k → (w_need_l[k - 1]'(by omega)) = last := fun h0 => by
      have h8 := hI.2.2 h0
      rw [List.getElem?_eq_getElem (by omega)] at h8
      exact Option.some.inj h8
     refine K_roundS (a' := [(9, _), (3, _)]) (k + 1) (.cons (k := 9) rfl (.cons (k := 3) rfl (.cons (k := 8) rfl (.cons (k := 7) rfl (.cons (k := 2) rfl (.cons (k := 1) rfl (.nil))))))) (fun w hw => by first | exact hw | exact hw.c) ?_ ?_
     ·refine ⟨_, rfl, by omega, ?_⟩
      (refine ⟨?_, ?_, ?_⟩)
      ·rw [need_take (by omega)]
       refine ⟨hI.1, ⟨?_, by omega⟩, fun h0 => ?_⟩
       ·rcases Nat.eq_zero_or_pos k with h0 | h0
        ·have h1 := hI.2.1 h0; omega
        ·have h1 := hl9 h0; have h2 := hI.1.1 _ (show w_need_l[k - 1] ∈ w_need_l.take k by rw [List.mem_take_iff_getElem]; exact ⟨k - 1, by omega, rfl⟩); omega
       ·have h1 := hl9 h0; omega
      ·intro h0; omega
      ·intro h0; rw [show k + 1 - 1 = k by omega, List.getElem?_eq_getElem (by omega)]
     ·omega
  ·replace hc2 := dF hc2
   refine C_exit ?_
   iterate 2 refine K_exit ?_
   refine K_hit ?_
   refine K_then ?_
   refine Y_pk [2, 1] ?_
   refine C_seq ?_
   refine C_region (l := [0, 1, 2, 3, 4, 5, 6, 7, 8, 9, 10, 11, 12, 13, 14, 15, 16, 17, 18, 19, 20, 21, 22, 23, 24, 25, 26, 27, 28, 29, 30, 31, 32]) rfl ?_
   refine Y_fieldAddr F.foff81_5 ?_
   refine Y_load F.lay52 ?_
   refine Y_len_sl F.elem52 ?_
   refine Y_cmp ?_
   refine Y_move ?_
   refine XD_part 26 rfl (fun hc5 => ?_) (fun hc5 => ?_)
   ·replace hc5 := dT hc5
    refine Y_fieldAddr F.foff81_5 ?_
    refine Y_load F.lay52 ?_
    refine Y_len_sl F.elem52 ?_
    refine Y_cmp ?_
    refine Y_pick ?_
    refine Y_move ?_
    refine XD_part 32 rfl (fun hc6 => ?_) (fun hc6 => ?_)
    ·replace hc6 := dT hc6
     refine Y_fieldAddr F.foff81_1 ?_
     refine Y_load F.lay3 ?_
     refine Y_cmp ?_
     refine Y_pick ?_
     refine Y_move ?_
     refine XD_part 37 rfl (fun hc7 => ?_) (fun hc7 => ?_)
     ·replace hc7 := dT hc7
      refine Y_fieldAddr F.foff81_1 ?_
      refine Y_load F.lay3 ?_
      refine Y_cmp ?_
      refine Y_pick ?_
      refine Y_move ?_
      refine XD_part 42 rfl (fun hc8 => ?_) (fun hc8 => ?_)
      ·replace hc8 := dT hc8
       refine Y_fieldAddr F.foff81_3 ?_
       refine Y_fieldAddr F.foff34_3 ?_
       refine Y_load F.lay9 ?_
       refine Y_str ?_
       refine Y_pick ?_
       refine Y_move ?_
       refine XD_part 48 rfl (fun hc9 => ?_) (fun hc9 => ?_)
       ·replace hc9 := dT hc9
        refine Y_fieldAddr F.foff81_3 ?_
        refine Y_fieldAddr F.foff34_0 ?_
        refine Y_load F.lay32 ?_
        refine Y_cmp ?_
        refine Y_pick ?_
        refine Y_assign ?_
        refine XD_end ?_
        refine K_then ?_
        refine Y_pk [2] ?_
        refine C_ret ?_
        refine K_end (.inr rfl) (.tmp rfl .nil) (fun w hw => ?_)
        refine ⟨_, rfl, (hw.c), ?_⟩
        clear hw
        obtain rfl : k = w_need_l.length := by omega
        rw [List.take_length] at hI
        have hN := hI.1
        show _ = Value.bool (decide (NeedOk w_need_l ∧ (1 ≤ w_need_l.length ∧ w_need_l.length ≤ 8) ∧ (0 ≤ w_client ∧ w_client ≤ 63) ∧ w_answer_val = ⟨#[]⟩ ∧ w_answer_code = 0))
        refine congrArg Value.bool ?_
        exact decide_eq_decide.2 ⟨fun h9 => ⟨hN, ⟨by omega, by omega⟩, ⟨by omega, by omega⟩, by assumption, h9⟩, fun h9 => h9.2.2.2.2⟩
       ·replace hc9 := dF hc9
        iterate 4 refine Y_skip ?_
        refine Y_pick ?_
        refine Y_assign ?_
        refine XD_end ?_
        refine K_then ?_
        refine Y_pk [2] ?_
        refine C_ret ?_
        refine K_end (.inr rfl) (.tmp rfl .nil) (fun w hw => ?_)
        refine ⟨_, rfl, (hw.c), ?_⟩
        clear hw
        obtain rfl : k = w_need_l.length := by omega
        rw [List.take_length] at hI
        have hN := hI.1
        show _ = Value.bool (decide (NeedOk w_need_l ∧ (1 ≤ w_need_l.length ∧ w_need_l.length ≤ 8) ∧ (0 ≤ w_client ∧ w_client ≤ 63) ∧ w_answer_val = ⟨#[]⟩ ∧ w_answer_code = 0))
        refine congrArg Value.bool ?_
        exact (decide_eq_false (fun h9 => by obtain ⟨g1, g2, g3, g4, g5⟩ := h9; first | omega | contradiction | (simp_all; done))).symm
      ·replace hc8 := dF hc8
       iterate 4 refine Y_skip ?_
       refine Y_pick ?_
       refine Y_move ?_
       iterate 4 refine Y_skip ?_
       refine Y_pick ?_
       refine Y_assign ?_
       refine XD_end ?_
       refine K_then ?_
       refine Y_pk [2] ?_
       refine C_ret ?_
       refine K_end (.inr rfl) (.tmp rfl .nil) (fun w hw => ?_)
       refine ⟨_, rfl, (hw.c), ?_⟩
       clear hw
       obtain rfl : k = w_need_l.length := by omega
       rw [List.take_length] at hI
       have hN := hI.1
       show _ = Value.bool (decide (NeedOk w_need_l ∧ (1 ≤ w_need_l.length ∧ w_need_l.length ≤ 8) ∧ (0 ≤ w_client ∧ w_client ≤ 63) ∧ w_answer_val = ⟨#[]⟩ ∧ w_answer_code = 0))
       refine congrArg Value.bool ?_
       exact (decide_eq_false (fun h9 => by obtain ⟨g1, g2, g3, g4, g5⟩ := h9; first | omega | contradiction | (simp_all; done))).symm
     ·replace hc7 := dF hc7
      iterate 3 refine Y_skip ?_
      refine Y_pick ?_
      refine Y_move ?_
      iterate 4 refine Y_skip ?_
      refine Y_pick ?_
      refine Y_move ?_
      iterate 4 refine Y_skip ?_
      refine Y_pick ?_
      refine Y_assign ?_
      refine XD_end ?_
      refine K_then ?_
      refine Y_pk [2] ?_
      refine C_ret ?_
      refine K_end (.inr rfl) (.tmp rfl .nil) (fun w hw => ?_)
      refine ⟨_, rfl, (hw.c), ?_⟩
      clear hw
      obtain rfl : k = w_need_l.length := by omega
      rw [List.take_length] at hI
      have hN := hI.1
      show _ = Value.bool (decide (NeedOk w_need_l ∧ (1 ≤ w_need_l.length ∧ w_need_l.length ≤ 8) ∧ (0 ≤ w_client ∧ w_client ≤ 63) ∧ w_answer_val = ⟨#[]⟩ ∧ w_answer_code = 0))
      refine congrArg Value.bool ?_
      exact (decide_eq_false (fun h9 => by obtain ⟨g1, g2, g3, g4, g5⟩ := h9; first | omega | contradiction | (simp_all; done))).symm
    ·replace hc6 := dF hc6
     iterate 3 refine Y_skip ?_
     refine Y_pick ?_
     refine Y_move ?_
     iterate 3 refine Y_skip ?_
     refine Y_pick ?_
     refine Y_move ?_
     iterate 4 refine Y_skip ?_
     refine Y_pick ?_
     refine Y_move ?_
     iterate 4 refine Y_skip ?_
     refine Y_pick ?_
     refine Y_assign ?_
     refine XD_end ?_
     refine K_then ?_
     refine Y_pk [2] ?_
     refine C_ret ?_
     refine K_end (.inr rfl) (.tmp rfl .nil) (fun w hw => ?_)
     refine ⟨_, rfl, (hw.c), ?_⟩
     clear hw
     obtain rfl : k = w_need_l.length := by omega
     rw [List.take_length] at hI
     have hN := hI.1
     show _ = Value.bool (decide (NeedOk w_need_l ∧ (1 ≤ w_need_l.length ∧ w_need_l.length ≤ 8) ∧ (0 ≤ w_client ∧ w_client ≤ 63) ∧ w_answer_val = ⟨#[]⟩ ∧ w_answer_code = 0))
     refine congrArg Value.bool ?_
     exact (decide_eq_false (fun h9 => by obtain ⟨g1, g2, g3, g4, g5⟩ := h9; first | omega | contradiction | (simp_all; done))).symm
   ·replace hc5 := dF hc5
    iterate 4 refine Y_skip ?_
    refine Y_pick ?_
    refine Y_move ?_
    iterate 3 refine Y_skip ?_
    refine Y_pick ?_
    refine Y_move ?_
    iterate 3 refine Y_skip ?_
    refine Y_pick ?_
    refine Y_move ?_
    iterate 4 refine Y_skip ?_
    refine Y_pick ?_
    refine Y_move ?_
    iterate 4 refine Y_skip ?_
    refine Y_pick ?_
    refine Y_assign ?_
    refine XD_end ?_
    refine K_then ?_
    refine Y_pk [2] ?_
    refine C_ret ?_
    refine K_end (.inr rfl) (.tmp rfl .nil) (fun w hw => ?_)
    refine ⟨_, rfl, (hw.c), ?_⟩
    clear hw
    obtain rfl : k = w_need_l.length := by omega
    rw [List.take_length] at hI
    have hN := hI.1
    show _ = Value.bool (decide (NeedOk w_need_l ∧ (1 ≤ w_need_l.length ∧ w_need_l.length ≤ 8) ∧ (0 ≤ w_client ∧ w_client ≤ 63) ∧ w_answer_val = ⟨#[]⟩ ∧ w_answer_code = 0))
    refine congrArg Value.bool ?_
    exact (decide_eq_false (fun h9 => by obtain ⟨g1, g2, g3, g4, g5⟩ := h9; first | omega | contradiction | (simp_all; done))).symm

theorem than_ok (M : Mem) (w : WaitV) (key : Plc) (hw0 : WaitV.ok M w) : Fs Tryz.prog 90 [w.enc, aggV [idSeg key]] M (fun v => v = Value.int .i64 (thanI w.key key)) := by
  obtain ⟨w_key, w_client, w_req, ⟨w_answer_code, w_answer_version, w_answer_has, w_answer_val⟩, w_serial, ⟨w_need_a, w_need_c, w_need_l⟩⟩ := w
  have k_w_need : SlK M (oneI .i64) 1 ⟨w_need_a, w_need_c, w_need_l⟩ := hw0.h0
  have s_w_need : SlM M w_need_a (w_need_l.map (oneI .i64)) 1 := k_w_need.h1
  have n_w_need : (w_need_l.map (oneI .i64)).length = w_need_l.length := List.length_map ..
  have m_w_need : w_need_l.length ≤ 9223372036854775807 := k_w_need.h2
  have c_w_need : w_need_l.length ≤ w_need_c := k_w_need.h3
  refine fs_enter Tryz.func90 rfl Tryz.ntmps90 rfl ?_; intro H
  refine C_seq ?_
  refine C_region (l := [0, 1, 2]) rfl ?_
  refine Y_box ?_; intro b1
  refine Y_box ?_; intro b2
  refine Y_assign ?_
  refine XD_end ?_
  refine K_then ?_
  refine Y_pk [4, 3, 2] ?_
  refine C_seq ?_
  refine C_block ?_
  refine C_seq ?_
  refine C_region (l := [0, 1, 2, 3, 4]) rfl ?_
  refine Y_fieldAddr F.foff81_0 ?_
  iterate 2 refine Y_load F.lay29 ?_
  refine X_same (m := 20) rfl rfl rfl rfl rfl (by constructor) (by constructor) F.lay29 F.kinds29 rfl F.guard29 (fit_id fit_nil) (fit_id fit_nil) rfl rfl rfl ?_; intro c3 he4
  replace he4 : c3 = true ↔ Segs.cells _ = Segs.cells _ := he4
  obtain rfl := eqD he4 (cells_id1 (x := _) (y := _)); clear he4
  refine Y_assign ?_
  refine XD_end ?_
  refine K_then ?_
  refine Y_pk [5, 4, 3, 2] ?_
  refine C_cond rfl (fun hc5 => ?_) (fun hc5 => ?_)
  ·replace hc5 := dT hc5
   refine C_seq ?_
   refine C_region (l := [0]) rfl ?_
   refine Y_assign ?_
   refine XD_end ?_
   refine K_then ?_
   refine Y_pk [4] ?_
   refine C_ret ?_
   refine K_retB ?_
   refine K_ret ?_
   refine K_end (.inr rfl) (.tmp rfl .nil) (fun w hw => ?_)
   refine ⟨_, rfl, (hw.c), ?_⟩
   clear hw
   refine congrArg (Value.int .i64) ?_
   show _ = thanI w_key key
   unfold thanI
   (subst_vars; simp; done)
  ·replace hc5 := dF hc5
   refine C_seq ?_
   refine C_region (l := [0, 1, 2, 3, 4]) rfl ?_
   refine Y_fieldAddr F.foff81_0 ?_
   iterate 2 refine Y_load F.lay29 ?_
   refine X_fs rfl rfl F.ok37 rfl (Less_ok _ _ _) rfl ?_
   rintro _ rfl
   refine Y_assign ?_
   refine XD_end ?_
   refine K_then ?_
   refine Y_pk [10, 4] ?_
   refine C_cond rfl (fun hc6 => ?_) (fun hc6 => ?_)
   ·replace hc6 := dT hc6
    refine C_seq ?_
    refine C_region (l := [0]) rfl ?_
    refine Y_assign ?_
    refine XD_end ?_
    refine K_then ?_
    refine Y_pk [4] ?_
    refine C_ret ?_
    refine K_retB ?_
    refine K_ret ?_
    refine K_end (.inr rfl) (.tmp rfl .nil) (fun w hw => ?_)
    refine ⟨_, rfl, (hw.c), ?_⟩
    clear hw
    refine congrArg (Value.int .i64) ?_
    show _ = thanI w_key key
    unfold thanI
    (rw [if_neg (by assumption), if_pos (by assumption)]; done)
   ·replace hc6 := dF hc6
    refine C_skip ?_
    refine K_out ?_
    refine K_then ?_
    refine Y_pk [4] ?_
    refine C_seq ?_
    refine C_region (l := [0]) rfl ?_
    refine Y_assign ?_
    refine XD_end ?_
    refine K_then ?_
    refine C_ret ?_
    refine K_end (.inr rfl) (.tmp rfl .nil) (fun w hw => ?_)
    refine ⟨_, rfl, (hw.c), ?_⟩
    clear hw
    refine congrArg (Value.int .i64) ?_
    show _ = thanI w_key key
    unfold thanI
    (rw [if_neg (by assumption), if_neg (by assumption)]; done)

theorem SIs_ok (M : Mem) (s : ServerV) (hs0 : ServerV.ok M s) : Fs Tryz.prog 14 [s.enc] M (fun v => v = Value.bool (decide (IsSrv s.pl))) := by
  obtain ⟨s_addr, s_epoch, ⟨s_store_a, s_store_c, s_store_l⟩, ⟨s_waits_a, s_waits_c, s_waits_l⟩, s_serial⟩ := s
  have k_s_store : SlK M HeldV.segs 24 ⟨s_store_a, s_store_c, s_store_l⟩ := hs0.h0
  have s_s_store : SlM M s_store_a (s_store_l.map HeldV.segs) 24 := k_s_store.h1
  have n_s_store : (s_store_l.map HeldV.segs).length = s_store_l.length := List.length_map ..
  have m_s_store : s_store_l.length ≤ 9223372036854775807 := k_s_store.h2
  have c_s_store : s_store_l.length ≤ s_store_c := k_s_store.h3
  have l_s_store : ∀ y ∈ s_store_l, HeldV.ok M y := hs0.h1
  have k_s_waits : SlK M WaitV.segs 28 ⟨s_waits_a, s_waits_c, s_waits_l⟩ := hs0.h2
  have s_s_waits : SlM M s_waits_a (s_waits_l.map WaitV.segs) 28 := k_s_waits.h1
  have n_s_waits : (s_waits_l.map WaitV.segs).length = s_waits_l.length := List.length_map ..
  have m_s_waits : s_waits_l.length ≤ 9223372036854775807 := k_s_waits.h2
  have c_s_waits : s_waits_l.length ≤ s_waits_c := k_s_waits.h3
  have l_s_waits : ∀ y ∈ s_waits_l, WaitV.ok M y := hs0.h3
  refine fs_enter Tryz.func14 rfl Tryz.ntmps14 rfl ?_; intro H
  refine C_seq ?_
  refine C_region (l := [0, 1]) rfl ?_
  refine Y_box ?_; intro b1
  refine Y_assign ?_
  refine XD_end ?_
  refine K_then ?_
  refine Y_pk [2, 1] ?_
  iterate 2 refine C_seq ?_
  refine C_region (l := [0, 1, 2, 3]) rfl ?_
  refine Y_fieldAddr F.foff26_3 ?_
  refine Y_load F.lay24 ?_
  refine Y_len_sl F.elem24 ?_
  refine Y_move ?_
  refine XD_end ?_
  refine K_then ?_
  refine Y_pk [8, 7, 6, 2, 1] ?_
  refine C_block ?_
  refine Y_pk [8, 7, 6, 2, 1] ?_
  refine C_loopS (.succ .zero) (fun (k : Nat) z => z = [(8, .int .i64 (k : Int))] ∧ k ≤ s_waits_l.length ∧ (WtsOk ((wtl s_waits_l).take k))) (fun k => s_waits_l.length - k) (0) (⟨rfl, by omega, by (exact ⟨fun m hm => by simp at hm, by simp⟩)⟩) ?_
  rintro k _ ⟨rfl, hk, hI⟩
  refine C_seq ?_
  refine C_region (l := [0]) rfl ?_
  refine Y_cmp ?_
  refine XD_end ?_
  refine K_then ?_
  refine C_seq ?_
  refine C_cond rfl (fun hc2 => ?_) (fun hc2 => ?_)
  ·replace hc2 := dT hc2
   refine C_skip ?_
   refine K_then ?_
   refine C_seq ?_
   refine C_block ?_
   refine C_seq ?_
   refine C_region (l := [0, 1, 2, 3, 4, 5]) rfl ?_
   refine Y_move ?_
   refine X_indexAddr rfl rfl rfl rfl F.elem24 (by rfl) (by omega) (by exact SlM.plain (by assumption) (by (simp; omega))) rfl ?_
   refine X_load_el rfl rfl rfl (by assumption) (by exact row_map (by omega)) F.lay54 rfl rfl rfl ?_
   refine Y_alloc F.zero54 ?_; intro b3
   refine Y_assign ?_
   refine Y_store F.lay54 ?_
   refine XD_end ?_
   refine K_then ?_
   refine C_seq ?_
   have hpk : (wtl s_waits_l)[k]'(by rw [wtl_len]; omega) = WaitV.pl s_waits_l[k] := by simp [wtl]
   have hp9 : ∀ h : 0 < k, (wtl s_waits_l)[k - 1]'(by rw [wtl_len]; omega) = WaitV.pl s_waits_l[k - 1] := fun h => by simp [wtl]
   have e9 : ∀ h0 : 0 < k, s_waits_l[((k : Int) - 1).toNat]'(by omega) = s_waits_l[k - 1]'(by omega) := fun h0 => by congr 1; omega
   refine C_region_any (l := [0, 1, 2, 3, 4, 5, 6, 7, 8, 9, 10, 11, 12, 13, 14, 15, 16, 17, 18, 19]) #[0, 1, 3, 7, 15, 31, 63, 127, 255, 127, 639, 2047, 4095, 8191, 127, 16511, 65535, 131071, 262143, 524287] _ rfl (by kernel_rfl) (by kernel_rfl) St.drawn (fun _ h => h) ?_
   refine Y_load F.lay54 ?_
   refine X_fs rfl rfl F.ok36 rfl (right_ok _ s_waits_l[k] (l_s_waits _ (List.getElem_mem (by omega)))) rfl ?_
   rintro _ rfl
   refine Y_not ?_
   refine Y_move ?_
   refine XD_part 16 rfl (fun hc4 => ?_) (fun hc4 => ?_)
   ·replace hc4 := nT hc4
    iterate 15 refine Y_skip ?_
    refine Y_pick ?_
    refine XD_end ?_
    refine K_then ?_
    refine C_true rfl ?_
    refine C_seq ?_
    refine C_region (l := [0]) rfl ?_
    refine Y_assign ?_
    refine XD_end ?_
    refine K_then ?_
    refine C_ret ?_
    refine K_retB ?_
    iterate 2 refine K_ret ?_
    refine K_retB ?_
    refine K_ret ?_
    refine K_end (.inr rfl) (.tmp rfl .nil) (fun w hw => ?_)
    refine ⟨_, rfl, (hw.c), ?_⟩
    clear hw
    show _ = Value.bool (decide (WtsOk (wtl s_waits_l) ∧ (0 ≤ s_addr ∧ s_addr ≤ 999) ∧ IsSt (pls s_store_l)))
    refine congrArg Value.bool (decide_eq_false (fun h9 => ?_)).symm
    obtain ⟨_, g1, g2⟩ := (wts_take (s := wtl s_waits_l) (k := k) (by rw [wtl_len]; omega)).1 (wts_pre h9.1 (k + 1))
    rw [hpk] at g1
    contradiction
   ·replace hc4 := nF hc4
    refine Y_move ?_
    refine Y_cmp ?_
    refine Y_move ?_
    refine XD_part 19 rfl (fun hc5 => ?_) (fun hc5 => ?_)
    ·replace hc5 := dT hc5
     refine Y_fieldAddr F.foff26_3 ?_
     refine Y_load F.lay24 ?_
     refine Y_move ?_
     refine X_ari rfl rfl rfl rfl rfl (by exact wrap_in (by decide) (by omega)) rfl ?_
     refine X_indexAddr rfl rfl rfl rfl F.elem24 (by exact (Int.toNat_of_nonneg (by omega)).symm) (by omega) (by exact SlM.plain (by assumption) (by (simp; omega))) rfl ?_
     refine X_fieldAddr_el rfl rfl rfl (by exact SlM.plain (by assumption) (by (simp; omega))) F.foff54_0 rfl ?_
     refine X_load_el rfl rfl rfl (by assumption) (by exact row_map (by omega)) F.lay29 rfl rfl rfl ?_
     refine Y_fieldAddr F.foff54_0 ?_
     refine Y_load F.lay29 ?_
     refine X_fs rfl rfl F.ok37 rfl (Less_ok _ _ _) rfl ?_
     rintro _ rfl
     refine Y_not ?_
     iterate 2 refine Y_pick ?_
     refine XD_end ?_
     refine K_then ?_
     refine C_cond rfl (fun hc6 => ?_) (fun hc6 => ?_)
     ·replace hc6 := nT hc6
      simp only [List.get_eq_getElem] at hc6
      refine C_seq ?_
      refine C_region (l := [0]) rfl ?_
      refine Y_assign ?_
      refine XD_end ?_
      refine K_then ?_
      refine C_ret ?_
      refine K_retB ?_
      iterate 2 refine K_ret ?_
      refine K_retB ?_
      refine K_ret ?_
      refine K_end (.inr rfl) (.tmp rfl .nil) (fun w hw => ?_)
      refine ⟨_, rfl, (hw.c), ?_⟩
      clear hw
      show _ = Value.bool (decide (WtsOk (wtl s_waits_l) ∧ (0 ≤ s_addr ∧ s_addr ≤ 999) ∧ IsSt (pls s_store_l)))
      refine congrArg Value.bool (decide_eq_false (fun h9 => ?_)).symm
      obtain ⟨_, g1, g2⟩ := (wts_take (s := wtl s_waits_l) (k := k) (by rw [wtl_len]; omega)).1 (wts_pre h9.1 (k + 1))
      rw [hpk] at g1
      (have h0 : 0 < k := (by omega); have h7 := g2 h0; have h8 := e9 h0; rw [hpk, hp9 h0] at h7; simp_all [WaitV.pl]; done)
     ·replace hc6 := nF hc6
      simp only [List.get_eq_getElem] at hc6
      refine C_skip ?_
      refine K_out ?_
      refine K_then ?_
      refine C_region (l := [0, 1]) rfl ?_
      refine X_ari rfl rfl rfl rfl rfl (by exact wrap_in (by decide) (by omega)) rfl ?_
      refine Y_move ?_
      refine XD_end ?_
      refine K_roundS (a' := [(8, _)]) (k + 1) (.cons (k := 8) rfl (.cons (k := 7) rfl (.cons (k := 6) rfl (.cons (k := 2) rfl (.cons (k := 1) rfl (.nil)))))) (fun w hw => by first | exact hw | exact hw.c) ?_ ?_
      ·refine ⟨rfl, by omega, ?_⟩
       (rw [wts_take (by rw [wtl_len]; omega)])
       refine ⟨hI, by rw [hpk]; assumption, fun h0 => ?_⟩
       rw [hpk, hp9 h0]
       (have h8 := e9 h0; simp_all [WaitV.pl]; done)
      ·omega
    ·replace hc5 := dF hc5
     iterate 11 refine Y_skip ?_
     iterate 2 refine Y_pick ?_
     refine XD_end ?_
     refine K_then ?_
     refine C_false rfl ?_
     refine C_skip ?_
     refine K_out ?_
     refine K_then ?_
     refine C_region (l := [0, 1]) rfl ?_
     refine X_ari rfl rfl rfl rfl rfl (by exact wrap_in (by decide) (by omega)) rfl ?_
     refine Y_move ?_
     refine XD_end ?_
     refine K_roundS (a' := [(8, _)]) (k + 1) (.cons (k := 8) rfl (.cons (k := 7) rfl (.cons (k := 6) rfl (.cons (k := 2) rfl (.cons (k := 1) rfl (.nil)))))) (fun w hw => by first | exact hw | exact hw.c) ?_ ?_
     ·refine ⟨rfl, by omega, ?_⟩
      (rw [wts_take (by rw [wtl_len]; omega)])
      refine ⟨hI, by rw [hpk]; assumption, fun h0 => ?_⟩
      rw [hpk, hp9 h0]
      omega
     ·omega
  ·replace hc2 := dF hc2
   refine C_exit ?_
   iterate 2 refine K_exit ?_
   refine K_hit ?_
   refine K_then ?_
   refine Y_pk [2, 1] ?_
   refine C_seq ?_
   refine C_region (l := [0, 1, 2, 3, 4, 5, 6, 7, 8, 9, 10, 11, 12, 13]) rfl ?_
   refine Y_fieldAddr F.foff26_0 ?_
   refine Y_load F.lay3 ?_
   refine Y_cmp ?_
   refine Y_move ?_
   refine XD_part 37 rfl (fun hc7 => ?_) (fun hc7 => ?_)
   ·replace hc7 := dT hc7
    refine Y_fieldAddr F.foff26_0 ?_
    refine Y_load F.lay3 ?_
    refine Y_cmp ?_
    refine Y_pick ?_
    refine Y_move ?_
    refine XD_part 42 rfl (fun hc8 => ?_) (fun hc8 => ?_)
    ·replace hc8 := dT hc8
     refine Y_fieldAddr F.foff26_2 ?_
     refine Y_load F.lay23 ?_
     refine X_fs rfl rfl F.ok38 rfl (StIs_ok _ ⟨s_store_a, s_store_c, s_store_l⟩ k_s_store l_s_store) rfl ?_
     rintro _ rfl
     refine Y_pick ?_
     refine Y_assign ?_
     refine XD_end ?_
     refine K_then ?_
     refine Y_pk [2] ?_
     refine C_ret ?_
     refine K_end (.inr rfl) (.tmp rfl .nil) (fun w hw => ?_)
     refine ⟨_, rfl, (hw.c), ?_⟩
     clear hw
     obtain rfl : k = s_waits_l.length := by omega
     rw [List.take_of_length_le (by rw [wtl_len]; omega)] at hI
     show _ = Value.bool (decide (WtsOk (wtl s_waits_l) ∧ (0 ≤ s_addr ∧ s_addr ≤ 999) ∧ IsSt (pls s_store_l)))
     refine congrArg Value.bool ?_
     exact decide_eq_decide.2 ⟨fun h9 => ⟨hI, ⟨by omega, by omega⟩, h9⟩, fun h9 => h9.2.2⟩
    ·replace hc8 := dF hc8
     iterate 3 refine Y_skip ?_
     refine Y_pick ?_
     refine Y_assign ?_
     refine XD_end ?_
     refine K_then ?_
     refine Y_pk [2] ?_
     refine C_ret ?_
     refine K_end (.inr rfl) (.tmp rfl .nil) (fun w hw => ?_)
     refine ⟨_, rfl, (hw.c), ?_⟩
     clear hw
     obtain rfl : k = s_waits_l.length := by omega
     rw [List.take_of_length_le (by rw [wtl_len]; omega)] at hI
     show _ = Value.bool (decide (WtsOk (wtl s_waits_l) ∧ (0 ≤ s_addr ∧ s_addr ≤ 999) ∧ IsSt (pls s_store_l)))
     refine congrArg Value.bool ?_
     exact (decide_eq_false (fun h9 => by obtain ⟨g1, g2, g3⟩ := h9; omega)).symm
   ·replace hc7 := dF hc7
    iterate 3 refine Y_skip ?_
    refine Y_pick ?_
    refine Y_move ?_
    iterate 3 refine Y_skip ?_
    refine Y_pick ?_
    refine Y_assign ?_
    refine XD_end ?_
    refine K_then ?_
    refine Y_pk [2] ?_
    refine C_ret ?_
    refine K_end (.inr rfl) (.tmp rfl .nil) (fun w hw => ?_)
    refine ⟨_, rfl, (hw.c), ?_⟩
    clear hw
    obtain rfl : k = s_waits_l.length := by omega
    rw [List.take_of_length_le (by rw [wtl_len]; omega)] at hI
    show _ = Value.bool (decide (WtsOk (wtl s_waits_l) ∧ (0 ≤ s_addr ∧ s_addr ≤ 999) ∧ IsSt (pls s_store_l)))
    refine congrArg Value.bool ?_
    exact (decide_eq_false (fun h9 => by obtain ⟨g1, g2, g3⟩ := h9; omega)).symm

end Go.Proofs.YtpkeilhilpogiaaGreat
/-
  Replies, copies, one more that waits, as the document has them.
-/
set_option linter.unusedSimpArgs false
set_option linter.unusedVariables false
set_option linter.unnecessarySimpa false
set_option maxRecDepth 8000
set_option maxHeartbeats 1000000
namespace Go.Proofs.YtpkeilhilpogiaaGreat
open Go.Esp
theorem F.bld39 : Bld Tryz.prog 39 [[.one (.int .i64 0)], [.one (.int .u64 0)], [idSeg 0], [.one (.int .i64 0), .one (.int .u64 0), .one (.int .i64 0), .one (.int .u64 0), .one (.string ⟨#[]⟩)], [.one (.int .i64 0), .one (.int .u64 0), .one (.bool false), .one (.string ⟨#[]⟩)], [.one (.int .u64 0)], [.one (.int .u64 0), .one (.bool false), .one (.string ⟨#[]⟩), .one (.slice none 0 0)]] := by rw [idSeg0]; exact ⟨by kernel_rfl, by kernel_rfl⟩
theorem F.bld51 : Bld Tryz.prog 51 [[.one (.int .i64 0)], [.one (.int .i64 0), .one (.int .u64 0), idSeg 0, .one (.int .i64 0), .one (.int .u64 0), .one (.int .i64 0), .one (.int .u64 0), .one (.string ⟨#[]⟩), .one (.int .i64 0), .one (.int .u64 0), .one (.bool false), .one (.string ⟨#[]⟩), .one (.int .u64 0), .one (.int .u64 0), .one (.bool false), .one (.string ⟨#[]⟩), .one (.slice none 0 0)]] := by rw [idSeg0]; exact ⟨by kernel_rfl, by kernel_rfl⟩
theorem F.elem43 : slOf Tryz.prog 43 = some (51, 37, 200) := by kernel_rfl
theorem F.foff26_1 : foff Tryz.prog 26 1 = some 1 := by kernel_rfl
theorem F.lay39 : lay Tryz.prog 39 = some (true, 36) := by kernel_rfl
theorem F.zero39 : zeroOf Tryz.prog 39 = some (aggV [.one (.int .i64 0), .one (.int .u64 0), idSeg 0, .one (.int .i64 0), .one (.int .u64 0), .one (.int .i64 0), .one (.int .u64 0), .one (.string ⟨#[]⟩), .one (.int .i64 0), .one (.int .u64 0), .one (.bool false), .one (.string ⟨#[]⟩), .one (.int .u64 0), .one (.int .u64 0), .one (.bool false), .one (.string ⟨#[]⟩), .one (.slice none 0 0)]) := by rw [idSeg0]; kernel_rfl
theorem F.zero51 : zeroOf Tryz.prog 51 = some (aggV [.one (.int .i64 0), .one (.int .i64 0), .one (.int .u64 0), idSeg 0, .one (.int .i64 0), .one (.int .u64 0), .one (.int .i64 0), .one (.int .u64 0), .one (.string ⟨#[]⟩), .one (.int .i64 0), .one (.int .u64 0), .one (.bool false), .one (.string ⟨#[]⟩), .one (.int .u64 0), .one (.int .u64 0), .one (.bool false), .one (.string ⟨#[]⟩), .one (.slice none 0 0)]) := by rw [idSeg0]; kernel_rfl

end Go.Proofs.YtpkeilhilpogiaaGreat
/-
  A server in memory of its own.
-/
set_option linter.unusedSimpArgs false
set_option linter.unusedVariables false
set_option linter.unnecessarySimpa false
set_option maxRecDepth 8000
set_option maxHeartbeats 1000000
namespace Go.Proofs.YtpkeilhilpogiaaGreat
open Go.Esp
theorem F.lay26 : lay Tryz.prog 26 = some (true, 5) := by kernel_rfl
theorem F.zero26 : zeroOf Tryz.prog 26 = some (aggV [.one (.int .i64 0), .one (.int .u64 0), .one (.slice none 0 0), .one (.slice none 0 0), .one (.int .u64 0)]) := by kernel_rfl

end Go.Proofs.YtpkeilhilpogiaaGreat
/-
  Whole circles, in plain Lean.
-/
set_option linter.unusedSimpArgs false
set_option linter.unusedVariables false
set_option linter.unnecessarySimpa false
namespace Go.Esp
/-- Has a peer a cell just if it has to, and is it this one? -/
def W1 (l : List PeerV) (r : Int) (all : List (List Hd)) (h : Hd) (n : Nat) : Prop := ∀ hn : n < all.length, (findS all[n] h.key).isSome = keepsR l r (n : Int) h.key ∧ ∀ c, findS all[n] h.key = some c → c = h.cell
end Go.Esp
/-
  A row of stores of our own, each in its own place; who gets what.
-/
set_option linter.unusedSimpArgs false
set_option linter.unusedVariables false
set_option linter.unnecessarySimpa false
namespace Go.Esp
structure OwnS where
  v : Value
  hs : Hp
  l : List HeldV
def famH : List OwnS → Hp
  | [] => []
  | x :: xs => x.hs ++ famH xs
theorem famH_split : ∀ {xs : List OwnS} {i : Nat} (hi : i < xs.length), ∃ A B, famH xs = A ++ (xs[i].hs ++ B) ∧ ∀ y, famH (xs.set i y) = A ++ (y.hs ++ B)
  | x :: xs, 0, _ => ⟨[], famH xs, rfl, fun y => rfl⟩
  | x :: xs, i + 1, hi => by
    obtain ⟨A, B, h1, h2⟩ := famH_split (xs := xs) (i := i) (by simpa using hi)
    refine ⟨x.hs ++ A, B, ?_, fun y => ?_⟩
    · show x.hs ++ famH xs = _
      rw [h1]; simp
    · show x.hs ++ famH (xs.set i y) = _
      rw [h2]; simp
/-- Rows of ours, just so. -/
structure FamI (T n : Nat) (xs : List OwnS) (g : Nat → List HeldV) : Prop where
  len : xs.length = n
  ok : ∀ x ∈ xs, OSl T 24 x.v x.hs (x.l.map HeldV.segs)
  is : ∀ i (hi : i < xs.length), xs[i].l = g i
theorem FamI.none (T n : Nat) {g : Nat → List HeldV} (hg : ∀ i, i < n → g i = []) : FamI T n (List.replicate n ⟨.slice none 0 0, [], []⟩) g :=
  ⟨by simp, fun x hx => by rw [List.eq_of_mem_replicate hx]; exact OSl.nil, fun i hi => by rw [List.getElem_replicate]; exact (hg i (by simpa using hi)).symm⟩
theorem FamI.congr {T n : Nat} {xs : List OwnS} {g g' : Nat → List HeldV} (h : FamI T n xs g) (e : ∀ i, i < n → g i = g' i) : FamI T n xs g' :=
  ⟨h.len, h.ok, fun i hi => (h.is i hi).trans (e i (by rw [← h.len]; exact hi))⟩
theorem FamI.pick {T n : Nat} {xs : List OwnS} {g : Nat → List HeldV} (h : FamI T n xs g) {i0 : Nat} (hi : i0 < n) : ∃ (v : Value) (hs : Hp) (A B : Hp), (xs.map fun x => ([.one x.v] : Segs))[i0]? = some [.one v] ∧ OSl T 24 v hs ((g i0).map HeldV.segs) ∧ famH xs = A ++ (hs ++ B) ∧
    ∀ v' hs' q, OSl T 24 v' hs' ((g i0 ++ [q]).map HeldV.segs) → ∃ xs', FamI T n xs' (fun i => if i = i0 then g i ++ [q] else g i) ∧ famH xs' = A ++ (hs' ++ B) ∧ (xs.map fun x => ([.one x.v] : Segs)).set i0 [.one v'] = xs'.map fun x => [.one x.v] := by
  have hx : i0 < xs.length := by rw [h.len]; exact hi
  obtain ⟨A, B, h1, h2⟩ := famH_split hx
  refine ⟨xs[i0].v, xs[i0].hs, A, B, by simp [hx], ?_, h1, fun v' hs' q ho => ⟨xs.set i0 ⟨v', hs', g i0 ++ [q]⟩, ⟨by simp [h.len], fun x hm => ?_, fun i hi2 => ?_⟩, h2 _, ?_⟩⟩
  · rw [← h.is i0 hx]; exact h.ok _ (List.getElem_mem hx)
  · rcases List.mem_or_eq_of_mem_set hm with hm | rfl
    · exact h.ok x hm
    · exact ho
  · rw [List.getElem_set]
    by_cases e : i0 = i
    · subst e; simp
    · rw [if_neg e, if_neg (fun e' => e e'.symm)]
      exact h.is i (by simpa using hi2)
  · rw [List.map_set]
/-! Copies lie in the circle, each one once. -/
theorem mod_two {n x : Nat} (h : x < 2 * n) : x % n = if x < n then x else x - n := by
  split
  · exact Nat.mod_eq_of_lt (by assumption)
  · rw [Nat.mod_eq_sub_mod (by omega), Nat.mod_eq_of_lt (by omega)]
theorem copies_at {l : List PeerV} {x : Plc} {r : Int} (h : IsCircle l) (hr : 1 ≤ r ∧ r ≤ 8) {c : List Int} (hc : c = (copiesR l x r).1) :
    c.Nodup ∧ ∀ j (hj : j < c.length), ∃ i : Nat, c[j] = (i : Int) ∧ i < l.length := by
  obtain ⟨rn, rfl⟩ : ∃ n : Nat, r = n := ⟨r.toNat, by omega⟩
  rw [copiesR_yes h (by omega) (by omega)] at hc
  simp only at hc
  have hl := h.1
  have ho : ownerI l x < l.length := ownerI_lt (by omega)
  subst hc
  constructor
  · refine List.pairwise_map.2 (List.Pairwise.imp_of_mem ?_ (List.nodup_range (n := min rn l.length)))
    intro a b ha hb hab e
    rw [List.mem_range] at ha hb
    apply hab
    have e' : (ownerI l x + a) % l.length = (ownerI l x + b) % l.length := by exact_mod_cast e
    rw [mod_two (by omega), mod_two (by omega)] at e'
    split at e' <;> split at e' <;> omega
  · intro j hj
    rw [List.getElem_map]
    exact ⟨_, rfl, Nat.mod_lt _ (by omega)⟩
/-- What of a row one keeps. -/
def filt (l : List PeerV) (r : Int) (i : Nat) (S : List HeldV) : List HeldV := S.filter fun h => keepsR l r (i : Int) h.key
theorem filt_pls {l : List PeerV} {r : Int} {i : Nat} {S : List HeldV} : pls (filt l r i S) = (pls S).filter fun h => keepsR l r (i : Int) h.key := by
  unfold pls filt
  rw [List.filter_map]; rfl
def gainG (l : List PeerV) (r : Int) (S : List HeldV) (k : Nat) (c : List Int) (h : HeldV) (i : Nat) : List HeldV := filt l r i (S.take k) ++ if (i : Int) ∈ c then [h] else []
/-- Healed stores handed back. -/
theorem AllE.healed {M M' : Mem} {l : List PeerV} {r : Int} {all : List (List Hd)} {S : List HeldV} {ss : List (Sl HeldV)} {xs : List OwnS} {T : Nat} {a : Option Addr} {c : Nat} (hc : CircSt l r all) (hS : pls S = ofS mergedT all) (hn : ¬ 2000 < S.length) (hx : FamI T l.length xs fun i => filt l r i S) (hs : ss.map (fun s => s.l) = xs.map (fun x => x.l))
    (hk : SlK M' (fun x => [.one (Sl.val x)]) 1 (⟨a, c, ss⟩ : Sl (Sl HeldV))) (hss : ∀ s ∈ ss, SlK M' HeldV.segs 24 s) (hok : ∀ h ∈ S, HeldV.ok M h) (hm : M.le M') : AllE M' (.tuple #[(⟨a, c, ss⟩ : Sl (Sl HeldV)).val, .int .i64 0]) (healR l r all) := by
  have he : healR l r all = ((List.range l.length).map fun i : Nat => (ofS mergedT all).filter fun h => keepsR l r (i : Int) h.key, 0) := by
    unfold healR
    rw [if_pos hc, if_neg (by rw [← hS, pls_len]; exact hn)]
  rw [he]
  have hat : ∀ i (hi : i < ss.length), ss[i].l = filt l r i S := fun i hi => by
    have hl : ss.length = xs.length := by have := congrArg List.length hs; simpa using this
    have h1 : (ss.map (fun s => s.l))[i]'(by simpa using hi) = (xs.map (fun x => x.l))[i]'(by simpa using (hl ▸ hi)) := by congr 1
    rw [List.getElem_map, List.getElem_map] at h1
    rw [h1]; exact hx.is i _
  refine ⟨⟨a, c, ss⟩, rfl, ?_, hk, fun y hy => ⟨hss y hy, fun h hh => ?_⟩⟩
  · refine List.ext_getElem ?_ fun i h1 h2 => ?_
    · have hl : ss.length = xs.length := by have := congrArg List.length hs; simpa using this
      rw [plss_len, List.length_map, List.length_range, hl, hx.len]
    · have h1' : i < ss.length := by rw [plss_len] at h1; exact h1
      rw [plss_at h1', hat i h1', filt_pls, hS, List.getElem_map, List.getElem_range]
  · obtain ⟨i, hi, rfl⟩ := List.getElem_of_mem hy
    rw [hat i hi] at hh
    exact (hok h ((List.mem_filter.1 hh).1)).mono hm
end Go.Esp
/-
  The others that keep a key, as the document has them.
-/
set_option linter.unusedSimpArgs false
set_option linter.unusedVariables false
set_option linter.unnecessarySimpa false
set_option maxRecDepth 8000
set_option maxHeartbeats 1000000
namespace Go.Proofs.YtpkeilhilpogiaaGreat
open Go.Esp
end Go.Proofs.YtpkeilhilpogiaaGreat
/-
  What healing brings about, in plain Lean.
-/
set_option linter.unusedSimpArgs false
set_option linter.unusedVariables false
set_option linter.unnecessarySimpa false
namespace Go.Esp
/-! A cell merged with itself stays. -/
theorem ofM_mem : ∀ {l : List MarkV}, l.Pairwise (fun x y => x.client < y.client) → ∀ {x : MarkV}, x ∈ l → ofM l x.client = some x
  | y :: l, h, x, hx => by
    have h1 := List.pairwise_cons.1 h
    unfold ofM
    rw [List.find?_cons]
    rcases List.mem_cons.1 hx with rfl | hx
    · simp
    · have := h1.1 x hx
      rw [show decide (y.client = x.client) = false from decide_eq_false (by omega)]
      exact ofM_mem h1.2 hx
/-! What lies at a key after blends. -/
/-! Healed ones. -/
def keptL (l : List PeerV) (r : Int) (S : List Hd) (i : Nat) : List Hd := S.filter fun h => keepsR l r (i : Int) h.key
def healsL (l : List PeerV) (r : Int) (S : List Hd) : List (List Hd) := (List.range l.length).map (keptL l r S)
/-! No key is lost, nor a version. -/
def same3 (a b : Cel) : Prop := a.version = b.version ∧ a.val = b.val ∧ a.has = b.has
end Go.Esp
