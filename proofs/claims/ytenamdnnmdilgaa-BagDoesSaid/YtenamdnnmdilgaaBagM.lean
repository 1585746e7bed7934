/-
  Bags as lists of messages: what a bag's blocks hold.
-/
import Derived.Test.YtenamdnnmdilgaaRules4
set_option linter.unusedSimpArgs false
set_option linter.unusedVariables false
set_option linter.unnecessarySimpa false
namespace Go.Esp

structure Mail where
  frm : Int
  to : Int
  body : ByteArray

def Mail.segs (m : Mail) : Segs := [.one (.int .i64 m.frm), .one (.int .i64 m.to), .one (.string m.body)]
def Mail.val (m : Mail) : Value := aggV m.segs
def Mail.zero : Mail := ⟨0, 0, ⟨#[]⟩⟩

theorem Mail.cells_inj {m n : Mail} : Segs.cells m.segs = Segs.cells n.segs ↔ m = n := by
  cases m; cases n; simp [Mail.segs, Segs.cells, Seg.cells]

theorem Mail.val_inj {m n : Mail} : m.val = n.val ↔ m = n := by
  rw [← Mail.cells_inj]
  constructor
  · intro h
    have : Value.agg (Segs.cells m.segs).toArray = Value.agg (Segs.cells n.segs).toArray := h
    simpa using this
  · intro h; simp [Mail.val, aggV, h]

theorem Mail.flat (m : Mail) : Esp.flat m.segs := by simp [Esp.flat, Mail.segs, Segs.cells, Seg.cells, Value.oneCell']
theorem Mail.flat1 (m : Mail) : ∀ u ∈ rowsCells [m.segs], u.oneCell' = true := by simp [rowsCells, Mail.segs, Segs.cells, Seg.cells, Value.oneCell']

def oneI (x : Int) : Segs := [.one (.int .i64 x)]

theorem imGet_set (l : IM) (k k' : Int) (v : Value) : imGet (imSet l k v) k' = if k' = k then (imGet l k).map (fun _ => v) else imGet l k' := by
  induction l with
  | nil => simp [imSet, imGet]
  | cons p l ih =>
    obtain ⟨j, u⟩ := p
    unfold imSet
    by_cases e : k = j
    · subst e
      by_cases h : k' = k
      · subst h; simp [imGet]
      · simp [imGet, h]
    · by_cases h : k' = j
      · subst h
        simp [imGet, e, Ne.symm e]
      · simp only [e, if_false, imGet, h]
        exact ih

theorem imGet_app (l : IM) (k k' : Int) (v : Value) : imGet (l ++ [(k, v)]) k' = match imGet l k' with | some u => some u | none => if k' = k then some v else none := by
  induction l with
  | nil => simp [imGet]
  | cons p l ih =>
    obtain ⟨j, u⟩ := p
    by_cases h : k' = j
    · subst h; simp [imGet]
    · simp [imGet, h, ih]

theorem imGet_put (l : IM) (k k' : Int) (v : Value) : imGet (imPut l k v) k' = if k' = k then some v else imGet l k' := by
  unfold imPut
  split
  · rename_i u hu
    rw [imGet_set, hu]; rfl
  · rename_i hu
    rw [imGet_app]
    by_cases h : k' = k
    · subst h; simp [hu]
    · simp only [h, if_false]
      cases imGet l k' <;> rfl

theorem imGet_del (l : IM) (k k' : Int) (h : k' ≠ k) : imGet (imDel l k) k' = imGet l k' := by
  induction l with
  | nil => rfl
  | cons p l ih =>
    obtain ⟨j, u⟩ := p
    unfold imDel
    by_cases e : k = j
    · subst e; simp [imGet, h]
    · simp only [e, if_false, imGet]
      by_cases h2 : k' = j
      · simp [h2]
      · simp [h2, ih]

/-- What a bag's numbers and map come to. -/
structure Inner (ids : List Int) (im : IM) (l : List Mail) (next : Int) : Prop where
  len : ids.length = l.length
  get : ∀ (i : Nat) (x : Int) (m : Mail), ids[i]? = some x → l[i]? = some m → imGet im x = some m.val
  nodup : ids.Nodup
  lt : ∀ x ∈ ids, x < next

theorem Inner.put {ids : List Int} {im : IM} {l : List Mail} {next : Int} (h : Inner ids im l next) (m : Mail) : Inner (ids ++ [next]) (imPut im next m.val) (l ++ [m]) (next + 1) := by
  refine ⟨by simp [h.len], fun i x m' hx hm => ?_, ?_, fun x hx => ?_⟩
  · rw [imGet_put]
    rcases Nat.lt_or_ge i ids.length with hi | hi
    · rw [List.getElem?_append_left hi] at hx
      rw [List.getElem?_append_left (by rw [← h.len]; exact hi)] at hm
      have := h.lt x (List.mem_of_getElem? hx)
      rw [if_neg (by omega)]
      exact h.get i x m' hx hm
    · rw [List.getElem?_append_right hi] at hx
      rw [List.getElem?_append_right (by rw [← h.len]; exact hi)] at hm
      have h0 : i - ids.length = 0 := by
        have := (List.getElem?_eq_some_iff.1 hx).1
        simpa using this
      rw [h0] at hx
      rw [← h.len, h0] at hm
      simp only [List.getElem?_cons_zero, Option.some.injEq] at hx hm
      subst hx; subst hm
      simp
  · rw [List.nodup_append]
    refine ⟨h.nodup, by simp, fun x hx y hy => ?_⟩
    simp only [List.mem_singleton] at hy
    have := h.lt x hx
    omega
  · rcases List.mem_append.1 hx with hx | hx
    · have := h.lt x hx; omega
    · simp only [List.mem_singleton] at hx
      omega

theorem Inner.del {ids : List Int} {im : IM} {l : List Mail} {next : Int} (h : Inner ids im l next) {i : Nat} {x : Int} (hx : ids[i]? = some x) : Inner (ids.eraseIdx i) (imDel im x) (l.eraseIdx i) next := by
  have hi := (List.getElem?_eq_some_iff.1 hx).1
  refine ⟨by simp [List.length_eraseIdx, h.len], fun j y m hy hm => ?_, h.nodup.eraseIdx i, fun y hy => h.lt y (List.mem_of_mem_eraseIdx hy)⟩
  rw [List.getElem?_eraseIdx] at hy hm
  have key : ∀ j', ids[j']? = some y → j' ≠ i → y ≠ x := by
    intro j' hj' hne e
    subst e
    have h1 := (List.getElem?_eq_some_iff.1 hj').1
    have h2 := (List.getElem?_eq_some_iff.1 hj').2
    have h3 := (List.getElem?_eq_some_iff.1 hx).2
    have hp := List.pairwise_iff_getElem.1 h.nodup
    rcases Nat.lt_trichotomy j' i with hl | hl | hl
    · exact hp j' i h1 hi hl (h2.trans h3.symm)
    · exact hne hl
    · exact hp i j' hi h1 hl (h3.trans h2.symm)
  split at hy
  · rename_i hlt
    rw [if_pos hlt] at hm
    rw [imGet_del _ _ _ (key j hy (by omega))]
    exact h.get j y m hy hm
  · rename_i hlt
    rw [if_neg hlt] at hm
    rw [imGet_del _ _ _ (key (j + 1) hy (by omega))]
    exact h.get (j + 1) y m hy hm

theorem Inner.nil : Inner [] [] [] 0 := ⟨rfl, fun i x m h => (by simp at h), List.nodup_nil, fun x h => (by cases h)⟩

/-- A bag's blocks. N: a bound of what was put. -/
def BagIs (b : Nat) (most : Int) (N : Int) (l : List Mail) (Hb : Hp) : Prop :=
  ∃ (next : Int) (mb : Nat) (rv : Value) (o : Obj) (hs : Hp) (ids : List Int) (im : IM),
    Hb = (b, rowO [.one (.int .i64 most), .one (.int .i64 next), .one rv, .one (.map (some mb))] 54) :: (mb, o) :: hs ∧
    OSl 3 1 rv hs (ids.map oneI) ∧ imO o im ∧ Inner ids im l next ∧ 0 ≤ next ∧ next ≤ N ∧ (l.length : Int) ≤ most ∧ most ≤ 1000

theorem BagIs.le {b : Nat} {most N : Int} {l : List Mail} {Hb : Hp} (h : BagIs b most N l Hb) : (l.length : Int) ≤ most ∧ most ≤ 1000 := by
  obtain ⟨next, mb, rv, o, hs, ids, im, _, _, _, _, _, _, h1, h2⟩ := h
  exact ⟨h1, h2⟩

theorem BagIs.mono {b : Nat} {most N N' : Int} {l : List Mail} {Hb : Hp} (h : BagIs b most N l Hb) (hN : N ≤ N') : BagIs b most N' l Hb := by
  obtain ⟨next, mb, rv, o, hs, ids, im, h1, h2, h3, h4, h5, h6, h7⟩ := h
  exact ⟨next, mb, rv, o, hs, ids, im, h1, h2, h3, h4, h5, by omega, h7⟩

/-- What Put answers, and what then is there. -/
def putC (m : Mail) (most : Int) (l : List Mail) : Int := if m.body.size > 4096 then 2 else if most ≤ l.length then 12 else 0
def putL (m : Mail) (most : Int) (l : List Mail) : List Mail := if putC m most l = 0 then l ++ [m] else l

/-- What At answers. -/
def atM (i : Int) (l : List Mail) : Mail := if i < 0 then .zero else (l[i.toNat]?).getD .zero
def atC (i : Int) (l : List Mail) : Int := if i < 0 ∨ (l.length : Int) ≤ i then 7 else 0
def takeL (i : Int) (l : List Mail) : List Mail := if i < 0 then l else l.eraseIdx i.toNat
def twiceC (i : Int) (most : Int) (l : List Mail) : Int := if atC i l = 0 then putC (atM i l) most l else atC i l
def twiceL (i : Int) (most : Int) (l : List Mail) : List Mail := if atC i l = 0 then putL (atM i l) most l else l
/-- The places of the messages to an address. -/
def toIk (a : Int) (l : List Mail) (k : Nat) : List Int := ((List.range k).filter fun i => decide ((l[i]?.getD .zero).to = a)).map fun (i : Nat) => (i : Int)
def toI (a : Int) (l : List Mail) : List Int := toIk a l l.length

theorem toIk_yes {a : Int} {l : List Mail} {k : Nat} (hk : k < l.length) (h : l[k].to = a) : toIk a l (k + 1) = toIk a l k ++ [(k : Int)] := by
  unfold toIk
  rw [List.range_succ, List.filter_append, List.map_append]
  simp [List.getElem?_eq_getElem hk, h]

theorem toIk_no {a : Int} {l : List Mail} {k : Nat} (hk : k < l.length) (h : ¬ l[k].to = a) : toIk a l (k + 1) = toIk a l k := by
  unfold toIk
  rw [List.range_succ, List.filter_append, List.map_append]
  simp [List.getElem?_eq_getElem hk, h]

theorem toI_pre {a : Int} {l : List Mail} {k : Nat} (hk : k ≤ l.length) : ∃ post, toI a l = toIk a l k ++ post := by
  unfold toI toIk
  obtain ⟨r, hr⟩ : ∃ r, l.length = k + r := ⟨l.length - k, by omega⟩
  rw [hr, List.range_add, List.filter_append, List.map_append]
  exact ⟨_, rfl⟩

theorem toI_split {a : Int} {l : List Mail} {k : Nat} (hk : k < l.length) (h : l[k].to = a) : ∃ post, toI a l = toIk a l k ++ (k : Int) :: post := by
  obtain ⟨post, hp⟩ := toI_pre (a := a) (l := l) (k := k + 1) (by omega)
  exact ⟨post, by rw [hp, toIk_yes hk h]; simp⟩

theorem toI_length (a : Int) (l : List Mail) : (toI a l).length ≤ l.length := by
  unfold toI toIk
  rw [List.length_map]
  exact Nat.le_trans (List.length_filter_le _ _) (by simp)

def loseL (a : Int) (l : List Mail) : List Mail := l.filter fun m => !decide (m.to = a)

theorem put_lim (m : Mail) (most : Int) (l : List Mail) (h : (4096 : Int) < m.body.size) : putC m most l = 2 ∧ putL m most l = l := by
  have : putC m most l = 2 := by unfold putC; rw [if_pos (by omega)]
  exact ⟨this, by unfold putL; rw [this]; rfl⟩

theorem put_full (m : Mail) (most : Int) (l : List Mail) (h : ¬ (4096 : Int) < m.body.size) (h2 : most ≤ l.length) : putC m most l = 12 ∧ putL m most l = l := by
  have : putC m most l = 12 := by unfold putC; rw [if_neg (by omega), if_pos h2]
  exact ⟨this, by unfold putL; rw [this]; rfl⟩

theorem put_ok (m : Mail) (most : Int) (l : List Mail) (h : ¬ (4096 : Int) < m.body.size) (h2 : ¬ most ≤ l.length) : putC m most l = 0 ∧ putL m most l = l ++ [m] := by
  have : putC m most l = 0 := by unfold putC; rw [if_neg (by omega), if_neg h2]
  exact ⟨this, by unfold putL; rw [this]; rfl⟩

theorem at_none (i : Int) (l : List Mail) (h : i < 0 ∨ (l.length : Int) ≤ i) : atM i l = .zero ∧ atC i l = 7 := by
  unfold atM atC
  rw [if_pos h]
  refine ⟨?_, rfl⟩
  split
  · rfl
  · rw [List.getElem?_eq_none (by omega)]; rfl

theorem at_ok (i : Int) (l : List Mail) (h0 : ¬ i < 0) (h : i.toNat < l.length) : atM i l = l[i.toNat] ∧ atC i l = 0 := by
  unfold atM atC
  rw [if_neg (by omega), if_neg (by omega), List.getElem?_eq_getElem h]
  exact ⟨rfl, rfl⟩

theorem Inner.at {ids : List Int} {im : IM} {l : List Mail} {next : Int} (h : Inner ids im l next) (z : Value) (k : Nat) (hk : k < ids.length) : (imGet im ids[k]).getD z = aggV (l[k]'(by rw [← h.len]; exact hk)).segs := by
  have := h.get k ids[k] (l[k]'(by rw [← h.len]; exact hk)) (List.getElem?_eq_getElem hk) (List.getElem?_eq_getElem _)
  rw [this]; rfl

theorem oneI_cells (ids : List Int) : ∀ u ∈ rowsCells (ids.map oneI), u.oneCell' = true := by
  intro u hu
  induction ids with
  | nil => cases hu
  | cons x ids ih =>
    simp only [List.map_cons, rowsCells, oneI, Segs.cells, Seg.cells, List.append_nil, List.cons_append, List.nil_append, List.mem_cons] at hu
    rcases hu with rfl | hu
    · rfl
    · exact ih hu

theorem atC_zero {i : Int} {l : List Mail} : atC i l = 0 ↔ 0 ≤ i ∧ i < l.length := by
  unfold atC
  split
  · constructor
    · intro h; cases h
    · intro h; omega
  · constructor
    · intro h; omega
    · intro h; rfl

theorem take_none {i : Int} {l : List Mail} (h : ¬ atC i l = 0) : takeL i l = l := by
  rw [atC_zero] at h
  unfold takeL
  split
  · rfl
  · exact List.eraseIdx_of_length_le (by omega)

theorem take_ok (k : Nat) (l : List Mail) : takeL (k : Int) l = l.eraseIdx k := by
  unfold takeL
  rw [if_neg (by omega)]
  simp

theorem eraseIdx_map' {α β : Type} (f : α → β) : ∀ (l : List α) (k : Nat), (l.map f).eraseIdx k = (l.eraseIdx k).map f
  | [], k => by simp
  | x :: l, 0 => by simp
  | x :: l, k + 1 => by simp [eraseIdx_map' f l k]

theorem BagIs.intro {b : Nat} {most N : Int} {l : List Mail} {next : Int} {mb : Nat} {rv : Value} {o : Obj} {hs : Hp} {ids : List Int} {im : IM}
    (h1 : OSl 3 1 rv hs (ids.map oneI)) (h2 : imO o im) (h3 : Inner ids im l next) (h4 : 0 ≤ next) (h5 : next ≤ N) (h6 : (l.length : Int) ≤ most) (h7 : most ≤ 1000) :
    BagIs b most N l ((b, rowO [.one (.int .i64 most), .one (.int .i64 next), .one rv, .one (.map (some mb))] 54) :: (mb, o) :: hs) :=
  ⟨next, mb, rv, o, hs, ids, im, rfl, h1, h2, h3, h4, h5, h6, h7⟩

theorem at_okN (k : Nat) (l : List Mail) (h : k < l.length) : atM (k : Int) l = l[k] ∧ atC (k : Int) l = 0 := by
  have := at_ok (k : Int) l (by omega) (by simpa using h)
  simpa using this

theorem at_erase_lo (n k : Nat) (l : List Mail) (h : k < n) (h2 : k + 1 < l.length) : atM (k : Int) (l.eraseIdx n) = l[k] := by
  rw [(at_okN k _ (by rw [List.length_eraseIdx]; split <;> omega)).1]
  rw [List.getElem_eraseIdx]; simp [h]

theorem at_erase_hi (n k : Nat) (l : List Mail) (h : ¬ k < n) (h2 : k + 1 < l.length) : atM (k : Int) (l.eraseIdx n) = l[k + 1] := by
  rw [(at_okN k _ (by rw [List.length_eraseIdx]; split <;> omega)).1]
  rw [List.getElem_eraseIdx]; simp [h]

/-- A row's elements with their places, the last one first: the first k of the row. -/
def bk (l : List Int) : Nat → List (Int × Int)
  | 0 => []
  | k + 1 => ((k : Int), l.getD k 0) :: bk l k

def backL (l : List Int) : List (Int × Int) := bk l l.length

theorem bk_snd (l : List Int) : ∀ k, k ≤ l.length → (bk l k).map Prod.snd = (l.take k).reverse
  | 0, _ => rfl
  | k + 1, h => by
    have hk : k < l.length := by omega
    have ht : l.take (k + 1) = l.take k ++ [l[k]] := by rw [List.take_add_one, List.getElem?_eq_getElem hk]; rfl
    have hd : l.getD k 0 = l[k] := by simp [List.getD_eq_getElem?_getD, List.getElem?_eq_getElem hk]
    rw [ht, List.reverse_append, bk, List.map_cons, bk_snd l k (by omega), hd]
    rfl

theorem backL_snd (l : List Int) : (backL l).map Prod.snd = l.reverse := by
  unfold backL
  rw [bk_snd l _ (Nat.le_refl _), List.take_length]

/-- All of these places taken, one behind the other. -/
def takeAll (xs : List Int) (l : List Mail) : List Mail := xs.foldl (fun l i => takeL i l) l

theorem takeAll_toIk (a : Int) (l : List Mail) : ∀ (k : Nat) (r : List Mail), k ≤ l.length → takeAll (toIk a l k).reverse (l.take k ++ r) = loseL a (l.take k) ++ r
  | 0, r, _ => by simp [toIk, takeAll, loseL]
  | k + 1, r, h => by
    have hk : k < l.length := by omega
    have ht : l.take (k + 1) = l.take k ++ [l[k]] := by rw [List.take_add_one, List.getElem?_eq_getElem hk]; rfl
    by_cases hc : l[k].to = a
    · rw [toIk_yes hk hc, List.reverse_append]
      show takeAll (toIk a l k).reverse (takeL (k : Int) (l.take (k + 1) ++ r)) = _
      have e1 : takeL (k : Int) (l.take (k + 1) ++ r) = l.take k ++ r := by
        rw [take_ok, ht, List.append_assoc, List.eraseIdx_append_of_length_le (by rw [List.length_take]; omega), List.length_take, Nat.min_eq_left (Nat.le_of_lt hk), Nat.sub_self]
        rfl
      have e2 : loseL a (l.take (k + 1)) = loseL a (l.take k) := by
        rw [ht]; unfold loseL; rw [List.filter_append]; simp only [List.filter_cons, hc, decide_true, Bool.not_true, List.filter_nil, List.append_nil]; simp
      rw [e1, takeAll_toIk a l k r (by omega), e2]
    · have e2 : loseL a (l.take (k + 1)) = loseL a (l.take k) ++ [l[k]] := by
        rw [ht]; unfold loseL; rw [List.filter_append]; simp only [List.filter_cons, hc, decide_false, Bool.not_false, List.filter_nil, if_true]
      rw [toIk_no hk hc, e2, ht, List.append_assoc, takeAll_toIk a l k _ (by omega), List.append_assoc]

theorem takeAll_toI (a : Int) (l : List Mail) : takeAll ((backL (toI a l)).map Prod.snd) l = loseL a l := by
  rw [backL_snd]
  have := takeAll_toIk a l l.length [] (Nat.le_refl _)
  simpa [toI] using this

theorem toIk_len (a : Int) (l : List Mail) : ∀ k, k ≤ l.length → (toIk a l k).length = ((l.take k).filter fun m => decide (m.to = a)).length
  | 0, _ => rfl
  | k + 1, h => by
    have hk : k < l.length := by omega
    have ht : l.take (k + 1) = l.take k ++ [l[k]] := by rw [List.take_add_one, List.getElem?_eq_getElem hk]; rfl
    have ih := toIk_len a l k (by omega)
    rw [ht, List.filter_append, List.length_append, ← ih]
    by_cases hc : l[k].to = a
    · rw [toIk_yes hk hc, List.length_append]; simp only [List.filter_cons, hc, decide_true, if_true]; rfl
    · rw [toIk_no hk hc]; simp only [List.filter_cons, hc, decide_false]; rfl

theorem toI_len (a : Int) (l : List Mail) : (toI a l).length = (l.filter fun m => decide (m.to = a)).length := by
  unfold toI
  rw [toIk_len a l _ (Nat.le_refl _), List.take_length]

theorem toI_len_yes {a : Int} {l : List Mail} {m : Mail} (h : m.to = a) : (toI a (l ++ [m])).length = (toI a l).length + 1 := by
  rw [toI_len, toI_len, List.filter_append, List.length_append]; simp only [List.filter_cons, h, decide_true, if_true]; rfl

theorem toI_len_no {a : Int} {l : List Mail} {m : Mail} (h : ¬ m.to = a) : (toI a (l ++ [m])).length = (toI a l).length := by
  rw [toI_len, toI_len, List.filter_append, List.length_append]; simp only [List.filter_cons, h, decide_false]; rfl

theorem lose_len (a : Int) : ∀ l : List Mail, (loseL a l).length + (toI a l).length = l.length := by
  intro l
  rw [toI_len]
  unfold loseL
  induction l with
  | nil => rfl
  | cons m l ih =>
    by_cases h : m.to = a
    · simp only [List.filter_cons, h, decide_true, Bool.not_true, if_true, List.length_cons]; simp only [Bool.false_eq_true, if_false]; omega
    · simp only [List.filter_cons, h, decide_false, Bool.not_false, if_true, List.length_cons]; simp only [Bool.false_eq_true, if_false]; omega

theorem lose_none (a : Int) (l : List Mail) : (toI a (loseL a l)).length = 0 := by
  rw [toI_len]
  unfold loseL
  rw [List.filter_filter, List.length_eq_zero_iff, List.filter_eq_nil_iff]
  intro m _
  simp

/-- A message doubled, where there is room. -/
theorem twice_what (i : Int) (l : List Mail) (hl : l.length ≤ 50) (hb : ∀ m ∈ l, m.body.size ≤ 4096) : twiceC i 60 l = atC i l ∧ (atC i l = 0 → twiceL i 60 l = l ++ [atM i l]) ∧ (¬ atC i l = 0 → twiceL i 60 l = l) := by
  unfold twiceC twiceL
  by_cases h : atC i l = 0
  · have hr := atC_zero.1 h
    obtain ⟨k, rfl⟩ : ∃ k : Nat, i = k := ⟨i.toNat, by omega⟩
    have hk := at_okN k l (by omega)
    have hp := put_ok (atM k l) 60 l (by rw [hk.1]; have := hb l[k] (List.getElem_mem _); omega) (by omega)
    rw [if_pos h, if_pos h, hp.1, hp.2, h]
    exact ⟨rfl, fun _ => rfl, fun h2 => (h2 rfl).elim⟩
  · rw [if_neg h, if_neg h]
    exact ⟨rfl, fun h2 => (h h2).elim, fun _ => rfl⟩

theorem at_app_last (l : List Mail) (m : Mail) : atM (l.length : Int) (l ++ [m]) = m ∧ atC (l.length : Int) (l ++ [m]) = 0 := by
  have := at_okN l.length (l ++ [m]) (by simp)
  simpa using this

theorem at_app (i : Int) (l : List Mail) (m : Mail) (h : atC i l = 0) : atM i (l ++ [m]) = atM i l ∧ atC i (l ++ [m]) = 0 := by
  have hr := atC_zero.1 h
  obtain ⟨k, rfl⟩ : ∃ k : Nat, i = k := ⟨i.toNat, by omega⟩
  have h1 := at_okN k l (by omega)
  have h2 := at_okN k (l ++ [m]) (by simp; omega)
  rw [h1.1, h2.1, List.getElem_append_left (by omega)]
  exact ⟨rfl, h2.2⟩

theorem toIk_le (a : Int) (l : List Mail) (k : Nat) : (toIk a l k).length ≤ k := by
  unfold toIk
  rw [List.length_map]
  exact Nat.le_trans (List.length_filter_le _ _) (by simp)

/-- The document's bag: a row alone. -/
def RefIs (b : Nat) (most : Int) (l : List Mail) (Hb : Hp) : Prop :=
  ∃ (rv : Value) (hs : Hp), Hb = (b, rowO [.one rv, .one (.int .i64 most)] 44) :: hs ∧ OSl 28 3 rv hs (l.map Mail.segs)

theorem RefIs.intro {b : Nat} {most : Int} {l : List Mail} {rv : Value} {hs : Hp} (h : OSl 28 3 rv hs (l.map Mail.segs)) : RefIs b most l ((b, rowO [.one rv, .one (.int .i64 most)] 44) :: hs) := ⟨rv, hs, rfl, h⟩

theorem takeL_same {i : Int} {l : List Mail} {k : Nat} (hk : k < l.length) (h : (k : Int) = i) : takeL i (l.take (k + 1)) = takeL i (l.take k) := by
  subst h
  have ht : l.take (k + 1) = l.take k ++ [l[k]] := by rw [List.take_add_one, List.getElem?_eq_getElem hk]; rfl
  rw [take_ok, take_ok, ht, List.eraseIdx_append_of_length_le (by rw [List.length_take]; omega), List.length_take, Nat.min_eq_left (Nat.le_of_lt hk), Nat.sub_self, List.eraseIdx_of_length_le (l := l.take k) (by rw [List.length_take]; omega)]
  exact List.append_nil _

theorem takeL_more {i : Int} {l : List Mail} {k : Nat} (hk : k < l.length) (h : ¬ (k : Int) = i) : takeL i (l.take (k + 1)) = takeL i (l.take k) ++ [l[k]] := by
  have ht : l.take (k + 1) = l.take k ++ [l[k]] := by rw [List.take_add_one, List.getElem?_eq_getElem hk]; rfl
  unfold takeL
  split
  · exact ht
  · rw [ht]
    rcases Nat.lt_or_ge i.toNat k with h1 | h1
    · rw [List.eraseIdx_append_of_lt_length (by rw [List.length_take]; omega)]
    · rw [List.eraseIdx_of_length_le (l := l.take k) (by rw [List.length_take]; omega), List.eraseIdx_of_length_le (by rw [List.length_append, List.length_take]; simp; omega)]

theorem takeL_len (i : Int) (l : List Mail) : (takeL i l).length ≤ l.length := by
  unfold takeL
  split
  · exact Nat.le_refl _
  · rw [List.length_eraseIdx]; split <;> omega

theorem loseL_step {a : Int} {l : List Mail} {k : Nat} (hk : k < l.length) : loseL a (l.take (k + 1)) = if l[k].to = a then loseL a (l.take k) else loseL a (l.take k) ++ [l[k]] := by
  have ht : l.take (k + 1) = l.take k ++ [l[k]] := by rw [List.take_add_one, List.getElem?_eq_getElem hk]; rfl
  rw [ht]; unfold loseL; rw [List.filter_append]
  split
  · rename_i h; simp only [List.filter_cons, h, decide_true, Bool.not_true, List.filter_nil]; simp
  · rename_i h; simp only [List.filter_cons, h, decide_false, Bool.not_false, List.filter_nil, if_true]

theorem loseL_len (a : Int) (l : List Mail) : (loseL a l).length ≤ l.length := List.length_filter_le _ _

/-- A step of a script. -/
structure BStep where
  kind : Int
  m : Mail
  i : Int

def BStep.segs (s : BStep) : Segs := [.one (.int .i64 s.kind), .one (.int .i64 s.m.frm), .one (.int .i64 s.m.to), .one (.string s.m.body), .one (.int .i64 s.i)]
def BStep.val (s : BStep) : Value := aggV s.segs

theorem putL_len (m : Mail) (most : Int) (l : List Mail) : (putL m most l).length ≤ l.length + 1 := by
  unfold putL; split <;> simp

end Go.Esp
