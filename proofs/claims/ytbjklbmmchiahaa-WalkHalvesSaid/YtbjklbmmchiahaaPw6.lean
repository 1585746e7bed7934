/-
  Texts of this claim, one behind the other: RingW, V15, V16.
-/
import Derived.Test.YtbjklbmmchiahaaPw5
/-
  Walks in settled tables, in plain Lean: they end at the owner, and each hop halves the way.
-/
set_option linter.unusedSimpArgs false
set_option linter.unusedVariables false
set_option linter.unnecessarySimpa false
namespace Go.Esp
/-! Who is known. -/
theorem coll_mem {s q : PeerV} : ∀ {xs acc : List PeerV}, q ∈ xs.foldl (collStep s) acc → q ∈ acc ∨ (q ∈ xs ∧ 0 ≤ q.addr ∧ q.addr ≠ s.addr)
  | [], acc, h => .inl h
  | p :: xs, acc, h => by
    rw [List.foldl_cons] at h
    rcases coll_mem h with h1 | ⟨h1, h2⟩
    · unfold collStep at h1
      split at h1
      · rename_i hc
        rcases List.mem_append.1 h1 with h1 | h1
        · exact .inl h1
        · rw [List.mem_singleton] at h1; subst h1
          exact .inr ⟨.head _, hc.1, hc.2.1⟩
      · exact .inl h1
    · exact .inr ⟨.tail _ h1, h2⟩
theorem coll_keep {s : PeerV} {a : Int} : ∀ {xs acc : List PeerV}, hasA acc a → hasA (xs.foldl (collStep s) acc) a
  | [], acc, h => h
  | p :: xs, acc, h => by
    rw [List.foldl_cons]
    refine coll_keep ?_
    unfold collStep
    split
    · unfold hasA at *; rw [List.map_append]; exact List.mem_append_left _ h
    · exact h
theorem coll_has {s p : PeerV} (h0 : 0 ≤ p.addr) (h1 : p.addr ≠ s.addr) : ∀ {xs acc : List PeerV}, p ∈ xs → hasA (xs.foldl (collStep s) acc) p.addr
  | q :: xs, acc, h => by
    rw [List.foldl_cons]
    rcases List.mem_cons.1 h with rfl | h
    · refine coll_keep ?_
      unfold collStep
      split
      · unfold hasA; simp
      · rename_i hc
        apply Decidable.byContradiction
        intro hn
        exact hc ⟨h0, h1, hn⟩
    · exact coll_has h0 h1 h
theorem known_mem {t : Tb} {q : PeerV} (h : q ∈ knownT t) : q ∈ t.pred :: (t.succ ++ t.fingers) ∧ 0 ≤ q.addr ∧ q.addr ≠ t.self.addr := by
  have hk := (known_met (s := t.self) (xs := t.pred :: (t.succ ++ t.fingers)) (List.Perm.refl []) List.Pairwise.nil).1
  rcases coll_mem (hk.mem_iff.1 h) with h1 | h1
  · cases h1
  · exact h1
theorem known_has {t : Tb} {p : PeerV} (h : p ∈ t.pred :: (t.succ ++ t.fingers)) (h0 : 0 ≤ p.addr) (h1 : p.addr ≠ t.self.addr) : hasA (knownT t) p.addr := by
  have hk := (known_met (s := t.self) (xs := t.pred :: (t.succ ++ t.fingers)) (List.Perm.refl []) List.Pairwise.nil).1
  exact (hasA_perm hk).2 (coll_has h0 h1 h)
section
variable {l : List PeerV} {r : Nat}
theorem first_set (hr : 1 ≤ r) {i k : Nat} (hi : i < l.length) (hk : k < l.length) (hk2 : (i + 1) % l.length = k) : firstT (setT l r i l[i]) = l[k] := by
  show ((roundL l i).take r).headD l[i] = l[k]
  rcases Nat.lt_or_ge 1 l.length with h | h
  · have h1 := roundL_at (k := 0) hi (by omega)
    rw [hk2, List.getElem?_eq_getElem hk] at h1
    have h2 : ((roundL l i).take r)[0]? = some l[k] := by rw [List.getElem?_take_of_lt (by omega)]; exact h1
    rw [List.headD_eq_head?_getD, List.head?_eq_getElem?, h2]; rfl
  · have e1 : l.length = 1 := by omega
    have hR : roundL l i = [] := List.eq_nil_of_length_eq_zero (by rw [roundL_len hi]; omega)
    rw [hR, List.take_nil]
    show l[i] = l[k]
    simp only [show i = 0 by omega, show k = 0 by omega]
/-- All that is known of a settled table are other peers of the circle. -/
theorem known_set {i : Nat} (h : IsCircle l) (hi : i < l.length) {q : PeerV} (hq : q ∈ knownT (setT l r i l[i])) : ∃ j, ∃ hj : j < l.length, j ≠ i ∧ q = l[j] := by
  obtain ⟨h1, h2, h3⟩ := known_mem hq
  have hF : ∀ k, setF l i l[i] k = q → ∃ j, ∃ hj : j < l.length, j ≠ i ∧ q = l[j] := fun k hk => by
    unfold setF at hk
    split at hk
    · subst hk; exact absurd h2 (by decide)
    · rename_i hn
      have ho := ownerI_lt (l := l) (x := l[i].id + powP k) (by omega)
      rw [List.getElem?_eq_getElem ho] at hk
      exact ⟨_, ho, hn, hk.symm⟩
  have h1 : q ∈ (roundL l i).getLastD noneP :: ((roundL l i).take r ++ (List.range 160).map (setF l i l[i])) := h1
  rcases List.mem_cons.1 h1 with h1 | h1
  · rcases Nat.eq_zero_or_pos (roundL l i).length with h0 | h0
    · rw [List.eq_nil_of_length_eq_zero h0] at h1
      subst h1; exact absurd h2 (by decide)
    · rw [lastD_at h0] at h1
      rw [h1]
      exact roundL_mem hi (List.getElem_mem (l := roundL l i) (n := (roundL l i).length - 1) (by omega))
  · rcases List.mem_append.1 h1 with h1 | h1
    · exact roundL_mem hi (List.mem_of_mem_take h1)
    · obtain ⟨k, _, hk⟩ := List.mem_map.1 h1
      exact hF k hk
theorem known_of {i m : Nat} (h : IsCircle l) (hi : i < l.length) (hm : m < l.length) (hn : m ≠ i) (hp : l[m] ∈ (roundL l i).take r ++ (List.range 160).map (setF l i l[i])) : l[m] ∈ knownT (setT l r i l[i]) := by
  have h0 := (h.2.1 _ (List.getElem_mem hm)).1
  have hh := known_has (t := setT l r i l[i]) (p := l[m]) (.tail _ hp) h0 (circ_addr h.2 hm hi hn)
  unfold hasA at hh
  obtain ⟨q, hq, he⟩ := List.mem_map.1 hh
  obtain ⟨j, hj, _, rfl⟩ := known_set h hi hq
  have : j = m := Decidable.byContradiction fun hne => circ_addr h.2 hj hm hne he
  subst this
  exact hq
theorem known_next {i k : Nat} (h : IsCircle l) (hr : 1 ≤ r) (hi : i < l.length) (hk : k < l.length) (hk2 : (i + 1) % l.length = k) (hn : k ≠ i) : l[k] ∈ knownT (setT l r i l[i]) := by
  refine known_of h hi hk hn (List.mem_append_left _ ?_)
  have h1 := roundL_at (k := 0) hi (by rcases nxt_cases hi with ⟨g1, _⟩ | ⟨g1, g2⟩ <;> omega)
  rw [hk2, List.getElem?_eq_getElem hk] at h1
  have h2 : ((roundL l i).take r)[0]? = some l[k] := by rw [List.getElem?_take_of_lt (by omega)]; exact h1
  exact List.mem_of_getElem? h2
/-- One who is not done knows a nearest one. -/
theorem hop_at {i : Nat} (h : IsCircle l) (hr : 1 ≤ r) (hi : i < l.length) {x : Plc} (hd : (doneT (setT l r i l[i]) x).2 = false) : ∃ j, ∃ hj : j < l.length, j ≠ i ∧ nearestT (setT l r i l[i]) x [] = (l[j], true) ∧ OpenP l[i].id l[j].id x ∧
    ∀ m (hm : m < l.length), m ≠ i → l[m] ∈ knownT (setT l r i l[i]) → OpenP l[i].id l[m].id x → ¬ OpenP l[j].id l[m].id x := by
  obtain ⟨k, hk⟩ : ∃ k, (i + 1) % l.length = k := ⟨_, rfl⟩
  have hkl : k < l.length := by rw [← hk]; exact Nat.mod_lt _ (by omega)
  have hnd : ¬ HalfP l[i].id x l[k].id := by
    have h9 := of_decide_eq_false hd
    rw [first_set hr hi hkl hk] at h9
    exact h9
  obtain ⟨hne, hop⟩ := next_open h.2 hi hkl hk hnd
  have hN := near_ok (t := setT l r i l[i]) (id := x) (avoid := [])
  have hkn := known_next h hr hi hkl hk hne
  have hc : CandP (setT l r i l[i]).self x [] l[k] := ⟨hop, by simp⟩
  cases hf : (nearestT (setT l r i l[i]) x []).2 with
  | false => exact ((hN.no hf).2 _ hkn hc).elim
  | true =>
    obtain ⟨g1, g2, g3⟩ := hN.yes hf
    obtain ⟨j, hj, hji, e⟩ := known_set h hi g1
    rw [e] at g2 g3
    exact ⟨j, hj, hji, Prod.ext e hf, g2.1, fun m hm hmi hmk hmo => g3 _ hmk ⟨hmo, by simp⟩⟩
theorem open_trans {a q y x : Plc} (h1 : OpenP a q x) (h2 : OpenP q y x) : OpenP a y x := by
  rw [open_D] at *
  have c1 := D_cases a q; have c2 := D_cases a x; have c3 := D_cases q y; have c4 := D_cases q x; have c5 := D_cases a y
  have b1 := a.isLt; have b2 := q.isLt; have b3 := y.isLt; have b4 := x.isLt
  omega
theorem count_lt {α : Type} {p q : α → Bool} : ∀ {l : List α}, (∀ y ∈ l, p y = true → q y = true) → (∃ y ∈ l, q y = true ∧ p y = false) → l.countP p < l.countP q
  | [], _, ⟨y, hy, _⟩ => by cases hy
  | z :: l, h, ⟨y, hy, h1, h2⟩ => by
    have hz := h z (.head _)
    rw [List.countP_cons, List.countP_cons]
    rcases List.mem_cons.1 hy with rfl | hy
    · rw [h1, h2]
      have : l.countP p ≤ l.countP q := List.countP_mono_left fun y hy => h y (.tail _ hy)
      simp; omega
    · have := count_lt (l := l) (fun y hy => h y (.tail _ hy)) ⟨y, hy, h1, h2⟩
      cases hp : p z with
      | true => rw [hz hp]; simpa using this
      | false => simp; omega
/-- How many stand ahead of x, from a on. -/
def ahead (l : List PeerV) (a x : Plc) : Nat := l.countP fun p => decide (OpenP a p.id x)
theorem ahead_lt {i : Nat} (hi : i < l.length) {x : Plc} : ahead l l[i].id x < l.length := by
  have := count_lt (l := l) (p := fun p => decide (OpenP l[i].id p.id x)) (q := fun _ => true) (fun _ _ _ => rfl) ⟨l[i], List.getElem_mem hi, rfl, decide_eq_false fun h => h.1 rfl⟩
  rw [List.countP_true] at this
  exact this
theorem ahead_less {j : Nat} (hj : j < l.length) {a x : Plc} (h : OpenP a l[j].id x) : ahead l l[j].id x < ahead l a x :=
  count_lt (fun y _ hy => decide_eq_true (open_trans h (of_decide_eq_true hy))) ⟨l[j], List.getElem_mem hj, decide_eq_true h, decide_eq_false fun h => h.1 rfl⟩
theorem walkGo_settled (h : IsCircle l) (hr : 1 ≤ r) (hr2 : r ≤ 8) {x : Plc} : ∀ {m i : Nat} {hops : List Int} (hi : i < l.length), 0 < hops.length → hops.length + ahead l l[i].id x ≤ l.length → hops.length + m = (l.length - 1) + 2 →
    ∃ R, walkGo (setL l r) x (l.length - 1) m (setT l r i l[i]) hops = (R, 0) ∧ R.end_ = l[ownerI l x]'(ownerI_lt (by omega)) ∧ R.hops.length ≤ l.length
  | 0, i, hops, hi, h0, h1, h2 => by have := h.1.1; omega
  | m + 1, i, hops, hi, h0, h1, h2 => by
    obtain ⟨k, hk⟩ : ∃ k, (i + 1) % l.length = k := ⟨_, rfl⟩
    have hkl : k < l.length := by rw [← hk]; exact Nat.mod_lt _ (by omega)
    have hfs := first_set hr hi hkl hk
    cases hd : (doneT (setT l r i l[i]) x).2 with
    | true =>
      have hh : HalfP l[i].id x l[k].id := by
        have h9 := of_decide_eq_true hd
        rw [hfs] at h9
        exact h9
      have ho := done_owner h.2 hi hkl hk hh
      refine ⟨⟨hops, l[k]⟩, walkGo_done (Prod.ext hfs hd), ?_, by show hops.length ≤ _; omega⟩
      simp only [ho]
    | false =>
      obtain ⟨j, hj, hji, hn, hop, _⟩ := hop_at h hr hi hd
      have hl := ahead_less hj hop
      have hp : 0 < ahead l l[i].id x := by omega
      have hm := h.1.1
      rw [walkGo_step (p := firstT (setT l r i l[i])) (q := l[j]) (u := setT l r j l[j]) (Prod.ext rfl hd) hn (by omega) (findT_set h hr2 hj)]
      exact walkGo_settled h hr hr2 hj (by simp) (by simp; omega) (by simp; omega)
/-- In settled tables a walk ends at the owner. -/
theorem walk_ends (h : IsCircle l) (hr : 1 ≤ r) (hr2 : r ≤ 8) {x : Plc} {i : Nat} (hi : i < l.length) : ∃ R : Rt, walkT (setL l r) l[i].addr x ((l.length : Int) - 1) = (R, 0) ∧ R.end_ = l[ownerI l x]'(ownerI_lt (by omega)) ∧ 0 < R.hops.length ∧ R.hops.length ≤ l.length ∧ R.hops.getD 0 0 = l[i].addr ∧ walkT (setL l r) l[i].addr x 64 = (R, 0) := by
  have hm := h.1
  have ha := ahead_lt hi (x := x)
  obtain ⟨R, h1, h2, h3⟩ := walkGo_settled h hr hr2 (x := x) (m := l.length - 1 + 1) (hops := [l[i].addr]) hi (by simp) (by simp; omega) (by simp; omega)
  have e : walkT (setL l r) l[i].addr x ((l.length - 1 : Nat) : Int) = (R, 0) := by
    rw [walkT_go (setL_right h hr2) (by omega) (findT_set h hr2 hi)]; exact h1
  obtain ⟨_, g1, g2, _⟩ := walk_hops (l := setL l r) (frm := l[i].addr) (id := x) (most := ((l.length - 1 : Nat) : Int)) (by rw [e])
  have k := (walk_more (l := setL l r) (frm := l[i].addr) (id := x) (most := l.length - 1) (more := 64) (by omega) (by omega)).2 (by rw [e])
  rw [e] at g1 g2 k
  refine ⟨R, by rw [show (l.length : Int) - 1 = ((l.length - 1 : Nat) : Int) by omega]; exact e, h2, g1, h3, g2, ?_⟩
  exact k.2.2.2 (by show R.hops.length ≤ 65; omega)
/-- Each hop at least halves how far it is to the peer ahead of the place. -/
theorem hop_halves (h : IsCircle l) (hr : 1 ≤ r) {x : Plc} {i j o g : Nat} (hi : i < l.length) (hj : j < l.length) (hd : (doneT (setT l r i l[i]) x).2 = false) (hn : nearestT (setT l r i l[i]) x [] = (l[j], true))
    (ho : o < l.length) (ho2 : ownerI l x = o) (hg : g < l.length) (hg2 : (o + l.length - 1) % l.length = g) : 2 * D l[j].id l[g].id < D l[i].id l[g].id := by
  have hng : (g + 1) % l.length = o := by
    rcases prv_cases ho with ⟨g1, g3⟩ | ⟨g1, g3⟩
    · rw [g3] at hg2; subst hg2
      rw [show o - 1 + 1 = o by omega]; exact Nat.mod_eq_of_lt ho
    · rw [g3] at hg2; subst hg2; subst g1
      rw [show l.length - 1 + 1 = l.length by omega]; exact Nat.mod_self _
  have hha := owner_arc h.2 ho ho2 hg hg2
  obtain ⟨k, hk⟩ : ∃ k, (i + 1) % l.length = k := ⟨_, rfl⟩
  have hkl : k < l.length := by rw [← hk]; exact Nat.mod_lt _ (by omega)
  have hnd : ¬ HalfP l[i].id x l[k].id := by
    have h9 := of_decide_eq_false hd
    rw [first_set hr hi hkl hk] at h9
    exact h9
  have hig : i ≠ g := fun e => by
    subst e
    rw [hk] at hng; subst hng
    exact hnd hha
  obtain ⟨j', hj', hji, hn', hop, hbest⟩ := hop_at h hr hi hd
  rw [hn] at hn'
  have hjj : j = j' := Decidable.byContradiction fun hne => circ_id h.2 hj hj' hne (congrArg (fun q => q.1.id) hn')
  subst hjj
  have hnm : ∀ m (hm : m < l.length), m ≠ g → D l[g].id l[o].id ≤ D l[g].id l[m].id := fun m hm hmg => next_min h.2 hg hm hmg ho hng
  have hidn : ∀ m (hm : m < l.length), m ≠ i → l[m].id.toNat ≠ l[i].id.toNat := fun m hm hmi e => circ_id h.2 hm hi hmi (BitVec.eq_of_toNat_eq e)
  have hidg : ∀ m (hm : m < l.length), m ≠ g → l[m].id.toNat ≠ l[g].id.toNat := fun m hm hmi e => circ_id h.2 hm hg hmi (BitVec.eq_of_toNat_eq e)
  have hog : o ≠ g := by rcases nxt_cases hg with ⟨g1, g3⟩ | ⟨g1, g3⟩ <;> omega
  have n5 := hidg o ho hog
  have key : ∀ m (hm : m < l.length), OpenP l[i].id l[m].id x → D l[i].id l[m].id ≤ D l[i].id l[g].id := fun m hm hmo => by
    by_cases hmg : m = g
    · subst hmg; exact Nat.le_refl _
    · have n1 := hnm m hm hmg
      have n2 := hnm i hi hig
      have n3 := hidg m hm hmg
      have n4 := hidg i hi hig
      rw [open_D] at hmo
      rw [half_D] at hha
      generalize l[i].id = a at *
      generalize l[g].id = c at *
      generalize l[o].id = w at *
      generalize l[m].id = y at *
      have c1 := D_cases a y; have c2 := D_cases a c; have c3 := D_cases c y; have c4 := D_cases c w; have c5 := D_cases c x; have c6 := D_cases a x; have c7 := D_cases c a
      have b1 := a.isLt; have b2 := c.isLt; have b3 := w.isLt; have b4 := x.isLt; have b5 := y.isLt
      omega
  have hgo : l[i].id.toNat = x.toNat ∨ D l[i].id l[g].id < D l[i].id x := by
    have n2 := hnm i hi hig
    have n4 := hidg i hi hig
    rw [half_D] at hha
    generalize l[i].id = a at *
    generalize l[g].id = c at *
    generalize l[o].id = w at *
    have c2 := D_cases a c; have c4 := D_cases c w; have c5 := D_cases c x; have c6 := D_cases a x; have c7 := D_cases c a
    have b1 := a.isLt; have b2 := c.isLt; have b3 := w.isLt; have b4 := x.isLt
    omega
  have hF : D l[i].id l[g].id ≠ 0 := by
    have n4 := hidg i hi hig
    have c2 := D_cases l[i].id l[g].id
    have b1 := l[i].id.isLt; have b2 := l[g].id.isLt
    omega
  -- the finger
  obtain ⟨F, hFe⟩ : ∃ F, D l[i].id l[g].id = F := ⟨_, rfl⟩
  have hFl : F < 2 ^ 160 := by rw [← hFe]; exact (l[g].id - l[i].id).isLt
  have hlog : F.log2 < 160 := (Nat.log2_lt (by omega)).2 hFl
  have hp1 : 2 ^ F.log2 ≤ F := Nat.log2_self_le (by omega)
  have hp2 : F < 2 ^ (F.log2 + 1) := Nat.lt_log2_self
  rw [Nat.pow_succ] at hp2
  have hpn := powP_nat hlog
  obtain ⟨q2, hq2⟩ : ∃ q, 2 ^ F.log2 = q := ⟨_, rfl⟩
  rw [hq2] at hp1 hp2 hpn
  have hm := ownerI_lt (l := l) (x := l[i].id + powP F.log2) (by omega)
  obtain ⟨m, hme⟩ : ∃ m, ownerI l (l[i].id + powP F.log2) = m := ⟨_, rfl⟩
  have hml : m < l.length := by rw [← hme]; exact hm
  have hmin := owner_min h.2 hml hme hg
  have hfar : q2 ≤ D l[i].id l[m].id ∧ D l[i].id l[m].id ≤ F := by
    have hpa : (l[i].id + powP F.log2).toNat = (l[i].id.toNat + q2) % 2 ^ 160 := by rw [BitVec.toNat_add, hpn]
    generalize l[i].id + powP F.log2 = p at *
    generalize l[i].id = a at *
    generalize l[g].id = c at *
    generalize l[m].id = f at *
    have c1 := D_cases a c; have c2 := D_cases p f; have c3 := D_cases p c; have c4 := D_cases a f
    have b1 := a.isLt; have b2 := c.isLt; have b3 := p.isLt; have b4 := f.isLt
    omega
  have hmi : m ≠ i := fun e => by
    subst e
    have c4 := D_cases l[m].id l[m].id
    omega
  have hfk : l[m] ∈ knownT (setT l r i l[i]) := by
    refine known_of h hi hml hmi (List.mem_append_right _ (List.mem_map.2 ⟨F.log2, List.mem_range.2 hlog, ?_⟩))
    unfold setF
    rw [hme, if_neg hmi, List.getElem?_eq_getElem hml]
    rfl
  have hfo : OpenP l[i].id l[m].id x := by
    rw [open_D]
    exact ⟨hidn m hml hmi, hgo.imp id fun h9 => by omega⟩
  have hnb := hbest m hml hmi hfk hfo
  rw [open_less hop hfo] at hnb
  have hge : D l[i].id l[m].id ≤ D l[i].id l[j].id := by
    unfold LessP at hnb
    have : ¬ D l[i].id l[j].id < D l[i].id l[m].id := hnb
    omega
  have hle := key j hj hop
  generalize l[i].id = a at *
  generalize l[g].id = c at *
  generalize l[j].id = y at *
  have c1 := D_cases a y; have c2 := D_cases a c; have c3 := D_cases y c
  have b1 := a.isLt; have b2 := c.isLt; have b3 := y.isLt
  omega
end
section
variable {l : List PeerV} {r : Nat}
theorem setL_find {a : Int} {u : Tb} (h : findT (setL l r) a = some u) : ∃ i, ∃ hi : i < l.length, u = setT l r i l[i] ∧ a = l[i].addr := by
  obtain ⟨h1, h2⟩ := findT_mem h
  obtain ⟨i, hi, e⟩ := List.getElem_of_mem h1
  rw [setL_len] at hi
  rw [setL_at hi] at e
  subst e
  exact ⟨i, hi, rfl, h2.symm⟩
/-- Where an address stands. -/
def wh (l : List PeerV) (a : Int) : Plc × Bool := match l.find? fun p => decide (p.addr = a) with
  | some p => (p.id, true)
  | none => (0, false)
def ofWh (r : Plc × Bool) : Value := .tuple #[aggV [idSeg r.1], .bool r.2]
theorem wh_first {a : Int} {k : Nat} (hk : k < l.length) (h1 : ∀ j (h2 : j < l.length), j < k → ¬ l[j].addr = a) (h : l[k].addr = a) : wh l a = (l[k].id, true) := by
  unfold wh
  rw [show (l.find? fun p => decide (p.addr = a)) = some l[k] from List.find?_eq_some_iff_getElem.2 ⟨decide_eq_true h, k, hk, rfl, fun j hj => by simpa using h1 j (by omega) hj⟩]
theorem wh_none {a : Int} (h1 : ∀ j (h2 : j < l.length), ¬ l[j].addr = a) : wh l a = (0, false) := by
  unfold wh
  rw [show (l.find? fun p => decide (p.addr = a)) = none from List.find?_eq_none.2 fun p hp => by
    obtain ⟨j, hj, rfl⟩ := List.getElem_of_mem hp
    simpa using h1 j hj]
theorem wh_at (h : IsCircle l) {k : Nat} (hk : k < l.length) : wh l l[k].addr = (l[k].id, true) := wh_first hk (fun j hj hjk => circ_addr h.2 hj hk (by omega)) rfl
theorem hops_halve (h : IsCircle l) (hr : 1 ≤ r) {x : Plc} {frm most : Int} {o g : Nat} {R : Rt} (hw : walkT (setL l r) frm x most = (R, 0)) (ho : o < l.length) (ho2 : ownerI l x = o) (hg : g < l.length) (hg2 : (o + l.length - 1) % l.length = g) {k : Nat} (hk : k + 1 < R.hops.length) :
    ∃ a b, ∃ ha : a < l.length, ∃ hb : b < l.length, R.hops.getD k 0 = l[a].addr ∧ R.hops.getD (k + 1) 0 = l[b].addr ∧ 2 * D l[b].id l[g].id < D l[a].id l[g].id := by
  obtain ⟨_, _, _, hh⟩ := walk_hops (l := setL l r) (frm := frm) (id := x) (most := most) (by rw [hw])
  rw [hw] at hh
  obtain ⟨⟨u, hu, hd1, hd2, hd3⟩⟩ := hh k (by show k < R.hops.length; omega)
  obtain ⟨a, ha, rfl, e⟩ := setL_find hu
  have hd : (doneT (setT l r a l[a]) x).2 = false := by
    cases hq : (doneT (setT l r a l[a]) x).2 with
    | false => rfl
    | true => have := hd1.1 hq; have hk' : k + 1 = R.hops.length := this; omega
  obtain ⟨j, hj, _, hn, _⟩ := hop_at h hr ha hd
  obtain ⟨_, e2⟩ := hd3 hk
  rw [hn] at e2
  exact ⟨a, j, ha, hj, e, e2.symm, hop_halves h hr ha hj hd hn ho ho2 hg hg2⟩
theorem hops_last (h : IsCircle l) (hr : 1 ≤ r) {x : Plc} {frm most : Int} {o g : Nat} {R : Rt} (hw : walkT (setL l r) frm x most = (R, 0)) (ho : o < l.length) (ho2 : ownerI l x = o) (hg : g < l.length) (hg2 : (o + l.length - 1) % l.length = g) : 0 < R.hops.length ∧ R.hops.getD (R.hops.length - 1) 0 = l[g].addr := by
  obtain ⟨_, h0, _, hh⟩ := walk_hops (l := setL l r) (frm := frm) (id := x) (most := most) (by rw [hw])
  rw [hw] at hh h0
  have h0 : 0 < R.hops.length := h0
  refine ⟨h0, ?_⟩
  obtain ⟨⟨u, hu, hd1, hd2, hd3⟩⟩ := hh (R.hops.length - 1) (by show R.hops.length - 1 < R.hops.length; omega)
  obtain ⟨a, ha, rfl, e⟩ := setL_find hu
  have hd : (doneT (setT l r a l[a]) x).2 = true := hd1.2 (by show R.hops.length - 1 + 1 = R.hops.length; omega)
  obtain ⟨k, hk⟩ : ∃ k, (a + 1) % l.length = k := ⟨_, rfl⟩
  have hkl : k < l.length := by rw [← hk]; exact Nat.mod_lt _ (by omega)
  have hq : HalfP l[a].id x l[k].id := by
    have h9 := of_decide_eq_true hd
    rw [first_set hr ha hkl hk] at h9
    exact h9
  have hown := done_owner h.2 ha hkl hk hq
  rw [ho2] at hown
  subst hown
  have : a = g := by
    rcases nxt_cases ha with ⟨g1, g3⟩ | ⟨g1, g3⟩
    · rcases prv_cases ho with ⟨q1, q2⟩ | ⟨q1, q2⟩ <;> omega
    · rcases prv_cases ho with ⟨q1, q2⟩ | ⟨q1, q2⟩ <;> omega
  subst this
  exact e
/-- What the program's arithmetic sees of it. -/
theorem half_less {a b g : Plc} (h : 2 * D b g < D a g) : LessP (g - b) (g - a) ∧ ¬ LessP (g - a) ((g - b) + (g - b)) ∧ ¬ LessP ((g - b) + (g - b)) (g - b) := by
  unfold D at h
  unfold LessP
  have h1 := (g - a).isLt
  rw [BitVec.toNat_add]
  generalize (g - b).toNat = p at *
  generalize (g - a).toNat = q at *
  omega
theorem settled_code {l : List PeerV} {r : Int} {TS : List Tb} {c : Int} (h : settledT l r = (TS, c)) : (c = 0 ∧ IsCircle l ∧ ∃ rn : Nat, r = rn ∧ 1 ≤ rn ∧ rn ≤ 8 ∧ TS = setL l rn) ∨ (c = 1 ∧ TS = []) := by
  by_cases hc : IsCircle l ∧ 1 ≤ r ∧ r ≤ 8
  · obtain ⟨h1, h2, h3⟩ := hc
    obtain ⟨rn, rfl⟩ : ∃ n : Nat, r = n := ⟨r.toNat, by omega⟩
    rw [settledT_yes h1 (by omega) (by omega)] at h
    cases h
    exact .inl ⟨rfl, h1, rn, rfl, by omega, by omega, rfl⟩
  · rw [settledT_no hc] at h
    cases h
    exact .inr ⟨rfl, rfl⟩
end
end Go.Esp
/-
  Walks: the fifth law.
-/
set_option linter.unusedSimpArgs false
set_option linter.unusedVariables false
set_option linter.unnecessarySimpa false
set_option maxRecDepth 8000
set_option maxHeartbeats 1000000
namespace Go.Proofs.Ytbjklbmmchiahaa
open Go.Esp
theorem F.ok55 : okFn Try.prog 55 = true := by kernel_rfl

theorem lawEnds_ok (M : Mem) (l : (Sl PeerV)) (r : Int) (i : Int) (id : Plc) (hl0 : SlK M PeerV.segs 21 l) : Esp.Fn Try.prog 13 [Sl.val l, .int .i64 r, .int .i64 i, aggV [idSeg id]] M (fun _ v => v = .bool true) := by
  obtain ⟨l_a, l_c, l_l⟩ := l
  have k_l : SlK M PeerV.segs 21 ⟨l_a, l_c, l_l⟩ := hl0
  have s_l : SlM M l_a (l_l.map PeerV.segs) 21 := k_l.h1
  have n_l : (l_l.map PeerV.segs).length = l_l.length := List.length_map ..
  have m_l : l_l.length ≤ 9223372036854775807 := k_l.h2
  have c_l : l_l.length ≤ l_c := k_l.h3
  refine fn_enter Try.func13 rfl Try.ntmps13 rfl ?_; intro H
  refine C_seq ?_
  refine C_region (l := [0, 1]) rfl ?_
  refine Y_box ?_; intro b1
  refine Y_assign ?_
  refine XD_end ?_
  refine K_then ?_
  refine Y_pk [8, 7, 0, 1, 2] ?_
  iterate 2 refine C_seq ?_
  refine C_region (l := [0, 1, 2]) rfl ?_
  refine Y_move ?_
  refine Y_len_sl F.elem26 ?_
  refine Y_cmp ?_
  refine XD_end ?_
  refine K_then ?_
  refine Y_pk [17, 8, 7, 0, 1, 2] ?_
  refine C_cond rfl (fun hc2 => ?_) (fun hc2 => ?_)
  ·replace hc2 := dT hc2
   refine C_seq ?_
   refine C_region (l := [0]) rfl ?_
   refine Y_assign ?_
   refine XD_end ?_
   refine K_then ?_
   refine Y_pk [8, 7, 0, 1, 2] ?_
   refine C_ret ?_
   refine K_ret ?_
   refine K_end (.inr rfl) (.tmp rfl .nil) (fun w hw => ?_)
   refine ⟨_, _, rfl, (by exact Mem.le.refl _), hw.c, ?_⟩
   clear hw
   rfl
  ·replace hc2 := dF hc2
   refine C_skip ?_
   refine K_then ?_
   refine Y_pk [8, 7, 0, 1, 2] ?_
   refine C_seq ?_
   refine C_region (l := [0, 1, 2, 3, 4, 5, 6, 7]) rfl ?_
   iterate 2 refine Y_move ?_
   refine X_fn rfl rfl F.ok52 rfl (Settled_ok _ ⟨l_a, l_c, l_l⟩ r k_l) rfl ?_
   rintro _ M5 hm5 h5
   obtain ⟨_, rfl, ⟨t5a, t5c, t5l⟩, rfl, e5, kt5, okt5⟩ := h5
   simp only at e5 okt5
   refine Y_move ?_
   iterate 2 refine Y_extract ?_
   iterate 2 refine Y_assign ?_
   refine XD_end ?_
   refine K_then ?_
   refine Y_pk [10, 9, 8, 7, 0, 2] ?_
   refine C_seq ?_
   refine C_region (l := [0, 1, 2, 3, 4, 5, 6, 7]) rfl ?_
   refine Y_move ?_
   refine Y_load F.lay23 ?_
   refine X_fs rfl rfl F.ok55 rfl (Owner_ok _ ⟨l_a, l_c, l_l⟩ id (k_l.mono (by assumption))) rfl ?_
   rintro _ hv
   obtain ⟨⟨ow, co⟩, howe⟩ : ∃ x, ownerR l_l id = x := ⟨_, rfl⟩
   replace hv : _ = ofII (ownerR l_l id) := hv
   rw [howe] at hv
   subst hv
   refine Y_move ?_
   iterate 2 refine Y_extract ?_
   iterate 2 refine Y_assign ?_
   refine XD_end ?_
   refine K_then ?_
   refine Y_pk [12, 11, 10, 9, 8, 7, 0, 2] ?_
   iterate 2 refine C_seq ?_
   obtain ⟨⟨TS, ce⟩, hset⟩ : ∃ x, settledT l_l r = x := ⟨_, rfl⟩
   simp only [hset] at e5 ⊢
   have hcode := settled_code hset
   have hl0 : ce = 0 ∨ t5l.length = 0 := by
    rcases hcode with ⟨g1, _⟩ | ⟨_, g2⟩
    ·exact .inl g1
    ·rw [g2] at e5; have h9 := congrArg List.length e5; rw [List.length_map] at h9; exact .inr h9
   refine C_region (l := [0, 1, 2, 3, 4, 5, 6, 7, 8, 9, 10, 11, 12, 13, 14, 15]) rfl ?_
   refine Y_move ?_
   refine Y_cmp ?_
   refine Y_move ?_
   refine XD_part 32 rfl (fun hc3 => ?_) (fun hc3 => ?_)
   ·replace hc3 := nT hc3
    iterate 2 refine Y_skip ?_
    refine Y_pick ?_
    refine Y_move ?_
    iterate 2 refine Y_skip ?_
    refine Y_pick ?_
    refine Y_move ?_
    iterate 4 refine Y_skip ?_
    refine Y_pick ?_
    refine XD_end ?_
    refine K_then ?_
    refine Y_pk [45, 11, 10, 9, 8, 7, 0, 2] ?_
    refine C_true rfl ?_
    refine C_seq ?_
    refine C_region (l := [0, 1, 2, 3, 4, 5, 6, 7, 8, 9, 10]) rfl ?_
    refine X_fn rfl rfl F.ok50 rfl (walked_ok _) rfl ?_
    rintro _ M9 hm9 rfl
    refine Y_move ?_
    refine XD_part 47 rfl (fun hc4 => ?_) (fun hc4 => ?_)
    ·skip
     simp only [PeerV.eta, TableV.eta, RouteV.eta] at hc4
     refine Y_move ?_
     refine Y_cmp ?_
     refine Y_move ?_
     refine XD_part 50 rfl (fun hc5 => ?_) (fun hc5 => ?_)
     ·replace hc5 := dT hc5
      (exfalso; first | omega | exact absurd hE2 (by assumption) | exact absurd hH2 (by assumption))
     ·replace hc5 := dF hc5
      refine Y_move ?_
      refine Y_len_sl F.elem60 ?_
      refine Y_cmp ?_
      iterate 2 refine Y_pick ?_
      refine Y_assign ?_
      refine XD_end ?_
      refine K_then ?_
      refine Y_pk [8, 11, 9, 7, 0, 2] ?_
      refine C_ret ?_
      refine K_ret ?_
      refine K_end (.inr rfl) (.tmp rfl .nil) (fun w hw => ?_)
      refine ⟨_, _, rfl, (by (repeat first | assumption | refine Mem.le.trans (by assumption) ?_)), hw.c, ?_⟩
      clear hw
      exact congrArg Value.bool (decide_eq_true (by omega))
    ·skip
     (exfalso; simp [eqX] at hc4; done)
   ·replace hc3 := nF hc3
    refine Y_move ?_
    refine Y_cmp ?_
    refine Y_pick ?_
    refine Y_move ?_
    refine XD_part 36 rfl (fun hc6 => ?_) (fun hc6 => ?_)
    ·replace hc6 := nT hc6
     iterate 2 refine Y_skip ?_
     refine Y_pick ?_
     refine Y_move ?_
     iterate 4 refine Y_skip ?_
     refine Y_pick ?_
     refine XD_end ?_
     refine K_then ?_
     refine Y_pk [45, 11, 10, 9, 8, 7, 0, 2] ?_
     refine C_true rfl ?_
     refine C_seq ?_
     refine C_region (l := [0, 1, 2, 3, 4, 5, 6, 7, 8, 9, 10]) rfl ?_
     refine X_fn rfl rfl F.ok50 rfl (walked_ok _) rfl ?_
     rintro _ M9 hm9 rfl
     refine Y_move ?_
     refine XD_part 47 rfl (fun hc7 => ?_) (fun hc7 => ?_)
     ·skip
      simp only [PeerV.eta, TableV.eta, RouteV.eta] at hc7
      refine Y_move ?_
      refine Y_cmp ?_
      refine Y_move ?_
      refine XD_part 50 rfl (fun hc8 => ?_) (fun hc8 => ?_)
      ·replace hc8 := dT hc8
       iterate 3 refine Y_skip ?_
       iterate 2 refine Y_pick ?_
       refine Y_assign ?_
       refine XD_end ?_
       refine K_then ?_
       refine Y_pk [8, 11, 9, 7, 0, 2] ?_
       refine C_ret ?_
       refine K_ret ?_
       refine K_end (.inr rfl) (.tmp rfl .nil) (fun w hw => ?_)
       refine ⟨_, _, rfl, (by (repeat first | assumption | refine Mem.le.trans (by assumption) ?_)), hw.c, ?_⟩
       clear hw
       rfl
      ·replace hc8 := dF hc8
       (exfalso; first | omega | exact absurd hE2 (by assumption) | exact absurd hH2 (by assumption))
     ·skip
      (exfalso; simp [eqX] at hc7; done)
    ·replace hc6 := nF hc6
     refine Y_move ?_
     refine Y_cmp ?_
     refine Y_pick ?_
     refine Y_move ?_
     refine XD_part 40 rfl (fun hc9 => ?_) (fun hc9 => ?_)
     ·replace hc9 := dT hc9
      iterate 4 refine Y_skip ?_
      refine Y_pick ?_
      refine XD_end ?_
      refine K_then ?_
      refine Y_pk [45, 11, 10, 9, 8, 7, 0, 2] ?_
      refine C_true rfl ?_
      refine C_seq ?_
      refine C_region (l := [0, 1, 2, 3, 4, 5, 6, 7, 8, 9, 10]) rfl ?_
      refine X_fn rfl rfl F.ok50 rfl (walked_ok _) rfl ?_
      rintro _ M9 hm9 rfl
      refine Y_move ?_
      refine XD_part 47 rfl (fun hc10 => ?_) (fun hc10 => ?_)
      ·skip
       simp only [PeerV.eta, TableV.eta, RouteV.eta] at hc10
       refine Y_move ?_
       refine Y_cmp ?_
       refine Y_move ?_
       refine XD_part 50 rfl (fun hc11 => ?_) (fun hc11 => ?_)
       ·replace hc11 := dT hc11
        iterate 3 refine Y_skip ?_
        iterate 2 refine Y_pick ?_
        refine Y_assign ?_
        refine XD_end ?_
        refine K_then ?_
        refine Y_pk [8, 11, 9, 7, 0, 2] ?_
        refine C_ret ?_
        refine K_ret ?_
        refine K_end (.inr rfl) (.tmp rfl .nil) (fun w hw => ?_)
        refine ⟨_, _, rfl, (by (repeat first | assumption | refine Mem.le.trans (by assumption) ?_)), hw.c, ?_⟩
        clear hw
        rfl
       ·replace hc11 := dF hc11
        (exfalso; first | omega | exact absurd hE2 (by assumption) | exact absurd hH2 (by assumption))
      ·skip
       (exfalso; simp [eqX] at hc10; done)
     ·replace hc9 := dF hc9
      iterate 2 refine Y_move ?_
      refine Y_len_sl F.elem26 ?_
      refine Y_cmp ?_
      refine Y_pick ?_
      refine XD_end ?_
      refine K_then ?_
      refine Y_pk [45, 11, 10, 9, 8, 7, 0, 2] ?_
      refine C_cond rfl (fun hc12 => ?_) (fun hc12 => ?_)
      ·replace hc12 := dT hc12
       refine C_seq ?_
       refine C_region (l := [0, 1, 2, 3, 4, 5, 6, 7, 8, 9, 10]) rfl ?_
       refine X_fn rfl rfl F.ok50 rfl (walked_ok _) rfl ?_
       rintro _ M9 hm9 rfl
       refine Y_move ?_
       refine XD_part 47 rfl (fun hc13 => ?_) (fun hc13 => ?_)
       ·skip
        simp only [PeerV.eta, TableV.eta, RouteV.eta] at hc13
        refine Y_move ?_
        refine Y_cmp ?_
        refine Y_move ?_
        refine XD_part 50 rfl (fun hc14 => ?_) (fun hc14 => ?_)
        ·replace hc14 := dT hc14
         iterate 3 refine Y_skip ?_
         iterate 2 refine Y_pick ?_
         refine Y_assign ?_
         refine XD_end ?_
         refine K_then ?_
         refine Y_pk [8, 11, 9, 7, 0, 2] ?_
         refine C_ret ?_
         refine K_ret ?_
         refine K_end (.inr rfl) (.tmp rfl .nil) (fun w hw => ?_)
         refine ⟨_, _, rfl, (by (repeat first | assumption | refine Mem.le.trans (by assumption) ?_)), hw.c, ?_⟩
         clear hw
         rfl
        ·replace hc14 := dF hc14
         (exfalso; first | omega | exact absurd hE2 (by assumption) | exact absurd hH2 (by assumption))
       ·skip
        (exfalso; simp [eqX] at hc13; done)
      ·replace hc12 := dF hc12
       refine C_skip ?_
       refine K_then ?_
       refine Y_pk [11, 9, 8, 7, 0, 2] ?_
       refine C_seq ?_
       obtain ⟨rfl, hc, rn, rfl, hr1, hr2, rfl⟩ := hcode.resolve_right (fun h9 => by omega)
       obtain ⟨n, rfl⟩ : ∃ n : Nat, i = n := ⟨i.toNat, by omega⟩
       have hn : n < l_l.length := by omega
       have hc1 := hc.1
       obtain ⟨o9, hog⟩ : ∃ o, ownerI l_l id = o := ⟨_, rfl⟩
       have ho9 : o9 < l_l.length := by rw [← hog]; exact ownerI_lt (by omega)
       rw [show ownerR l_l id = (((o9 : Nat) : Int), 0) by unfold ownerR; rw [if_pos hc, hog]] at howe
       obtain ⟨rfl, rfl⟩ : ((o9 : Nat) : Int) = ow ∧ (0 : Int) = co := ⟨congrArg Prod.fst howe, congrArg Prod.snd howe⟩
       obtain ⟨R6, hW, hE, hL0, hL1, hH0, hW64⟩ := walk_ends hc hr1 hr2 (x := id) hn
       have s_l5 := s_l.mono hm5
       refine C_region_any (l := [0, 1, 2, 3, 4, 5, 6, 7, 8, 9, 10, 11, 12, 13, 14, 15, 16]) #[0, 0, 0, 6, 14, 30, 0, 0, 128, 384, 1023, 2047, 4095, 4095, 0, 24575, 65535] _ rfl (by kernel_rfl) (by kernel_rfl) St.drawn (fun _ h => h) ?_
       iterate 3 refine Y_move ?_
       refine X_indexAddr rfl rfl rfl rfl F.elem26 (by rfl) (by omega) (by exact SlM.plain (by assumption) (by (simp; omega))) rfl ?_
       refine X_fieldAddr_el rfl rfl rfl (by exact SlM.plain (by assumption) (by (simp; omega))) F.foff25_0 rfl ?_
       refine X_load_el rfl rfl rfl (by assumption) (by exact row_map (by omega)) F.lay3 rfl rfl rfl ?_
       refine Y_load F.lay23 ?_
       refine Y_move ?_
       refine Y_len_sl F.elem26 ?_
       refine X_ari rfl rfl rfl rfl rfl (by exact wrap_in (by decide) (by omega)) rfl ?_
       refine X_fn rfl rfl F.ok48 rfl (Walk_ok _ ⟨t5a, t5c, t5l⟩ l_l[n].addr id ((l_l.length : Int) - 1) (kt5.mono (by exact Mem.le.refl _)) (fun y hy => (okt5 y hy).mono (by exact Mem.le.refl _))) rfl ?_
       rintro _ M6 hm6 h6
       rw [e5, hW] at h6
       obtain ⟨_, rfl, ⟨⟨r6a, r6c, r6l⟩, ⟨x6a, x6i⟩⟩, rfl, e6, ok6⟩ := h6
       simp only at e6
       subst e6
       simp only at hE hL0 hL1 hH0
       have s_l6 := s_l5.mono hm6
       have s_r6 := ok6.h0.h1
       simp only at s_r6
       have n_r6 : (r6l.map (oneI .i64)).length = r6l.length := List.length_map ..
       have m_r6 : r6l.length ≤ 9223372036854775807 := ok6.h0.h2
       have hga : ∀ j (hj : j < r6l.length), r6l.getD j 0 = r6l[j] := fun j hj => by rw [List.getD_eq_getElem?_getD, List.getElem?_eq_getElem hj]; rfl
       refine Y_move ?_
       iterate 2 refine Y_extract ?_
       refine Y_alloc F.zero63 ?_; intro b15
       refine Y_store F.lay63 ?_
       refine Y_assign ?_
       refine XD_end ?_
       refine K_then ?_
       refine Y_pk [14, 13, 11, 8, 0, 2] ?_
       refine C_seq ?_
       have hE2 : PeerV.mk x6a x6i = l_l[o9] := by rw [hE]; simp only [hog]
       have hH2 : r6l[0] = l_l[n].addr := by rw [← hga 0 hL0]; exact hH0
       have s_l9 := s_l6
       have s_r9 := s_r6
       refine C_region_any (l := [0, 1, 2, 3, 4, 5, 6, 7, 8, 9, 10, 11, 12, 13, 14, 15, 16, 17, 18, 19, 20, 21, 22, 23, 24, 25, 26, 27, 28, 29, 30, 31, 32, 33, 34, 35, 36, 37, 38, 39, 40]) #[0, 1, 3, 7, 15, 31, 63, 127, 63, 63, 831, 1855, 4095, 8191, 16383, 32767, 65535, 131071, 262143, 524287, 1048575, 2097151, 4194303, 8388607, 2097151, 18874367, 67108863, 134217727, 268435455, 536870911, 1073741823, 2147483647, 4294967295, 536870911, 536870911, 26306674687, 60666413055, 129385889791, 274877906943, 549755813887, 1099511627775] _ rfl (by kernel_rfl) (by kernel_rfl) St.drawn (fun _ h => h) ?_
       refine X_fn rfl rfl F.ok50 rfl (walked_ok _) rfl ?_
       rintro _ M9 hm9 rfl
       have s_l10 := s_l6.mono hm9
       have s_r10 := s_r6.mono hm9
       refine Y_move ?_
       refine XD_part 71 rfl (fun hc16 => ?_) (fun hc16 => ?_)
       ·skip
        simp only [PeerV.eta, TableV.eta, RouteV.eta] at hc16
        refine Y_move ?_
        refine Y_cmp ?_
        refine Y_pick ?_
        refine Y_move ?_
        refine XD_part 75 rfl (fun hc17 => ?_) (fun hc17 => ?_)
        ·replace hc17 := dT hc17
         simp only [PeerV.eta, TableV.eta, RouteV.eta] at hc17
         refine Y_fieldAddr F.foff63_1 ?_
         refine Y_load F.lay25 ?_
         iterate 2 refine Y_move ?_
         refine X_indexAddr rfl rfl rfl rfl F.elem26 (by rfl) (by omega) (by exact SlM.plain (by assumption) (by (simp; omega))) rfl ?_
         refine X_load_el rfl rfl rfl (by assumption) (by exact row_map (by omega)) F.lay25 rfl rfl rfl ?_
         refine X_same (m := 20) rfl rfl rfl rfl rfl (by constructor) (by constructor) F.lay25 F.kinds25 rfl F.guard25 (by exact FitPeerV (⟨_, _⟩)) (by exact FitPeerV _) rfl rfl rfl ?_; intro c18 he19
         replace he19 : c18 = true ↔ Segs.cells _ = Segs.cells _ := he19
         obtain rfl := eqD he19 (PeerV.inj (x := ⟨_, _⟩) (y := ⟨_, _⟩)); clear he19
         refine Y_pick ?_
         refine Y_move ?_
         refine XD_part 84 rfl (fun hc20 => ?_) (fun hc20 => ?_)
         ·replace hc20 := dT hc20
          simp only [PeerV.eta, TableV.eta, RouteV.eta] at hc20
          refine Y_fieldAddr F.foff63_0 ?_
          refine Y_load F.lay41 ?_
          refine Y_len_sl F.elem41 ?_
          refine Y_cmp ?_
          refine Y_pick ?_
          refine Y_move ?_
          refine XD_part 90 rfl (fun hc21 => ?_) (fun hc21 => ?_)
          ·replace hc21 := dT hc21
           refine Y_fieldAddr F.foff63_0 ?_
           refine Y_load F.lay41 ?_
           refine Y_len_sl F.elem41 ?_
           refine Y_move ?_
           refine Y_len_sl F.elem26 ?_
           refine Y_cmp ?_
           refine Y_pick ?_
           refine Y_move ?_
           refine XD_part 98 rfl (fun hc22 => ?_) (fun hc22 => ?_)
           ·replace hc22 := dT hc22
            refine Y_fieldAddr F.foff63_0 ?_
            refine Y_load F.lay41 ?_
            refine X_indexAddr rfl rfl rfl rfl F.elem41 (by rfl) (by omega) (by exact SlM.plain (by assumption) (by (simp; omega))) rfl ?_
            refine X_load_el rfl rfl rfl (by assumption) (by exact row_map (by omega)) F.lay3 rfl rfl rfl ?_
            iterate 2 refine Y_move ?_
            refine X_indexAddr rfl rfl rfl rfl F.elem26 (by rfl) (by omega) (by exact SlM.plain (by assumption) (by (simp; omega))) rfl ?_
            refine X_fieldAddr_el rfl rfl rfl (by exact SlM.plain (by assumption) (by (simp; omega))) F.foff25_0 rfl ?_
            refine X_load_el rfl rfl rfl (by assumption) (by exact row_map (by omega)) F.lay3 rfl rfl rfl ?_
            refine Y_cmp ?_
            refine Y_pick ?_
            refine Y_assign ?_
            refine XD_end ?_
            refine K_then ?_
            refine Y_pk [8] ?_
            refine C_ret ?_
            refine K_end (.inr rfl) (.tmp rfl .nil) (fun w hw => ?_)
            refine ⟨_, _, rfl, (by (repeat first | assumption | refine Mem.le.trans (by assumption) ?_)), hw.c, ?_⟩
            clear hw
            exact congrArg Value.bool (decide_eq_true (by omega))
           ·replace hc22 := dF hc22
            (exfalso; first | omega | exact absurd hE2 (by assumption) | exact absurd hH2 (by assumption))
          ·replace hc21 := dF hc21
           (exfalso; first | omega | exact absurd hE2 (by assumption) | exact absurd hH2 (by assumption))
         ·replace hc20 := dF hc20
          simp only [PeerV.eta, TableV.eta, RouteV.eta] at hc20
          (exfalso; first | omega | exact absurd hE2 (by assumption) | exact absurd hH2 (by assumption))
        ·replace hc17 := dF hc17
         simp only [PeerV.eta, TableV.eta, RouteV.eta] at hc17
         (exfalso; simp [eqX] at hc17; done)
       ·skip
        (exfalso; simp [eqX] at hc16; done)

end Go.Proofs.Ytbjklbmmchiahaa
/-
  Walks: the sixth law.
-/
set_option linter.unusedSimpArgs false
set_option linter.unusedVariables false
set_option linter.unnecessarySimpa false
set_option maxRecDepth 8000
set_option maxHeartbeats 1000000
namespace Go.Proofs.Ytbjklbmmchiahaa
open Go.Esp
theorem F.ok56 : okFn Try.prog 56 = true := by kernel_rfl
theorem F.ok57 : okFn Try.prog 57 = true := by kernel_rfl
theorem F.ok58 : okFn Try.prog 58 = true := by kernel_rfl

theorem where_ok (M : Mem) (l : (Sl PeerV)) (a : Int) (hl0 : SlK M PeerV.segs 21 l) : Fs Try.prog 57 [Sl.val l, .int .i64 a] M (fun v => v =  (ofWh (wh l.l a))) := by
  obtain ⟨l_a, l_c, l_l⟩ := l
  have k_l : SlK M PeerV.segs 21 ⟨l_a, l_c, l_l⟩ := hl0
  have s_l : SlM M l_a (l_l.map PeerV.segs) 21 := k_l.h1
  have n_l : (l_l.map PeerV.segs).length = l_l.length := List.length_map ..
  have m_l : l_l.length ≤ 9223372036854775807 := k_l.h2
  have c_l : l_l.length ≤ l_c := k_l.h3
  refine fs_enter Try.func57 rfl Try.ntmps57 rfl ?_; intro H
  refine C_seq ?_
  refine C_region (l := [0, 1]) rfl ?_
  refine Y_alloc F.zero23 ?_; intro b1
  refine Y_assign ?_
  refine XD_end ?_
  refine K_then ?_
  iterate 2 refine C_seq ?_
  refine C_region (l := [0]) rfl ?_
  refine Y_assign ?_
  refine XD_end ?_
  refine K_then ?_
  refine C_block ?_
  refine Y_pk [6, 5, 4, 0, 1] ?_
  refine C_loopS (.succ .zero) (fun (k : Nat) z => z = [(6, .int .i64 (k : Int))] ∧ k ≤ l_l.length ∧ (∀ j (h2 : j < l_l.length), j < k → ¬ l_l[j].addr = a)) (fun k => l_l.length - k) (0) (⟨rfl, by omega, by (intro j h2 hj; omega)⟩) ?_
  rintro k _ ⟨rfl, hk, hI⟩
  iterate 2 refine C_seq ?_
  refine C_region (l := [0, 1, 2, 3]) rfl ?_
  iterate 2 refine Y_move ?_
  refine Y_len_sl F.elem26 ?_
  refine Y_cmp ?_
  refine XD_end ?_
  refine K_then ?_
  refine C_cond rfl (fun hc2 => ?_) (fun hc2 => ?_)
  ·replace hc2 := dT hc2
   refine C_skip ?_
   refine K_then ?_
   refine C_seq ?_
   refine C_block ?_
   refine C_seq ?_
   refine C_region (l := [0, 1, 2, 3, 4, 5, 6]) rfl ?_
   iterate 2 refine Y_move ?_
   refine X_indexAddr rfl rfl rfl rfl F.elem26 (by rfl) (by omega) (by exact SlM.plain (by assumption) (by (simp; omega))) rfl ?_
   refine X_fieldAddr_el rfl rfl rfl (by exact SlM.plain (by assumption) (by (simp; omega))) F.foff25_0 rfl ?_
   refine X_load_el rfl rfl rfl (by assumption) (by exact row_map (by omega)) F.lay3 rfl rfl rfl ?_
   refine Y_move ?_
   refine Y_cmp ?_
   refine XD_end ?_
   refine K_then ?_
   refine C_cond rfl (fun hc3 => ?_) (fun hc3 => ?_)
   ·replace hc3 := dT hc3
    refine C_seq ?_
    refine C_region (l := [0, 1, 2, 3, 4, 5, 6]) rfl ?_
    iterate 2 refine Y_move ?_
    refine X_indexAddr rfl rfl rfl rfl F.elem26 (by rfl) (by omega) (by exact SlM.plain (by assumption) (by (simp; omega))) rfl ?_
    refine X_fieldAddr_el rfl rfl rfl (by exact SlM.plain (by assumption) (by (simp; omega))) F.foff25_1 rfl ?_
    refine X_load_el rfl rfl rfl (by assumption) (by exact row_map (by omega)) F.lay23 rfl rfl rfl ?_
    refine Y_store F.lay23 ?_
    refine Y_assign ?_
    refine XD_end ?_
    refine K_then ?_
    refine C_ret ?_
    refine K_retB ?_
    iterate 2 refine K_ret ?_
    refine K_retB ?_
    refine K_ret ?_
    refine K_end (.inr rfl) (.cell rfl (by repeat first | exact List.Mem.head _ | refine List.Mem.tail _ ?_ | refine List.mem_append_right _ ?_) F.lay23 rfl rfl (.tmp rfl .nil)) (fun w hw => ?_)
    refine ⟨_, rfl, (hw.c), ?_⟩
    clear hw
    (rw [show wh l_l a = (l_l[k].id, true) from wh_first (by omega) (fun j h2 hj => hI j h2 hj) (by assumption)]; rfl)
   ·replace hc3 := dF hc3
    refine C_skip ?_
    refine K_out ?_
    refine K_then ?_
    refine C_region (l := [0, 1, 2]) rfl ?_
    refine Y_move ?_
    refine X_ari rfl rfl rfl rfl rfl (by exact wrap_in (by decide) (by omega)) rfl ?_
    refine Y_assign ?_
    refine XD_end ?_
    refine K_roundS (a' := [(6, _)]) (k + 1) (.cons (k := 6) rfl (.cons (k := 5) rfl (.cons (k := 4) rfl (.cons (k := 0) rfl (.cons (k := 1) rfl (.nil)))))) (fun w hw => by first | exact hw | exact hw.c) ?_ ?_
    ·refine ⟨rfl, by omega, ?_⟩
     (intro j h2 hj; rcases Nat.lt_or_ge j k with h9 | h9; exact hI j h2 h9; obtain rfl : j = k := (by omega); assumption)
    ·omega
  ·replace hc2 := dF hc2
   refine C_exit ?_
   iterate 2 refine K_exit ?_
   refine K_hit ?_
   refine K_then ?_
   refine Y_pk [5, 4] ?_
   refine C_seq ?_
   refine C_region (l := [0, 1, 2]) rfl ?_
   refine X_build0 rfl rfl F.zero23 F.arr23 rfl ?_
   refine Y_store F.lay23 ?_
   refine Y_assign ?_
   refine XD_end ?_
   refine K_then ?_
   refine Y_pk [5, 4] ?_
   refine C_ret ?_
   refine K_end (.inr rfl) (.cell rfl (by repeat first | exact List.Mem.head _ | refine List.Mem.tail _ ?_ | refine List.mem_append_right _ ?_) F.lay23 rfl rfl (.tmp rfl .nil)) (fun w hw => ?_)
   refine ⟨_, rfl, (hw.c), ?_⟩
   clear hw
   (rw [show wh l_l a = (0, false) from wh_none (fun j h2 => hI j h2 (by omega))]; rfl)

theorem lawHalves_ok (M : Mem) (l : (Sl PeerV)) (r : Int) (i : Int) (id : Plc) (hl0 : SlK M PeerV.segs 21 l) : Esp.Fn Try.prog 14 [Sl.val l, .int .i64 r, .int .i64 i, aggV [idSeg id]] M (fun _ v => v = .bool true) := by
  obtain ⟨l_a, l_c, l_l⟩ := l
  have k_l : SlK M PeerV.segs 21 ⟨l_a, l_c, l_l⟩ := hl0
  have s_l : SlM M l_a (l_l.map PeerV.segs) 21 := k_l.h1
  have n_l : (l_l.map PeerV.segs).length = l_l.length := List.length_map ..
  have m_l : l_l.length ≤ 9223372036854775807 := k_l.h2
  have c_l : l_l.length ≤ l_c := k_l.h3
  refine fn_enter Try.func14 rfl Try.ntmps14 rfl ?_; intro H
  refine C_seq ?_
  refine C_region (l := [0, 1]) rfl ?_
  refine Y_box ?_; intro b1
  refine Y_assign ?_
  refine XD_end ?_
  refine K_then ?_
  refine Y_pk [8, 7, 0, 1, 2] ?_
  iterate 2 refine C_seq ?_
  refine C_region (l := [0, 1, 2]) rfl ?_
  refine Y_move ?_
  refine Y_len_sl F.elem26 ?_
  refine Y_cmp ?_
  refine XD_end ?_
  refine K_then ?_
  refine Y_pk [30, 8, 7, 0, 1, 2] ?_
  refine C_cond rfl (fun hc2 => ?_) (fun hc2 => ?_)
  ·replace hc2 := dT hc2
   refine C_seq ?_
   refine C_region (l := [0]) rfl ?_
   refine Y_assign ?_
   refine XD_end ?_
   refine K_then ?_
   refine Y_pk [8, 7, 0, 1, 2] ?_
   refine C_ret ?_
   refine K_ret ?_
   refine K_end (.inr rfl) (.tmp rfl .nil) (fun w hw => ?_)
   refine ⟨_, _, rfl, (by exact Mem.le.refl _), hw.c, ?_⟩
   clear hw
   rfl
  ·replace hc2 := dF hc2
   refine C_skip ?_
   refine K_then ?_
   refine Y_pk [8, 7, 0, 1, 2] ?_
   refine C_seq ?_
   refine C_region (l := [0, 1, 2, 3, 4, 5, 6, 7]) rfl ?_
   iterate 2 refine Y_move ?_
   refine X_fn rfl rfl F.ok52 rfl (Settled_ok _ ⟨l_a, l_c, l_l⟩ r k_l) rfl ?_
   rintro _ M5 hm5 h5
   obtain ⟨_, rfl, ⟨t5a, t5c, t5l⟩, rfl, e5, kt5, okt5⟩ := h5
   simp only at e5 okt5
   refine Y_move ?_
   iterate 2 refine Y_extract ?_
   iterate 2 refine Y_assign ?_
   refine XD_end ?_
   refine K_then ?_
   refine Y_pk [10, 9, 8, 7, 0, 2] ?_
   refine C_seq ?_
   refine C_region (l := [0, 1, 2, 3, 4, 5, 6, 7]) rfl ?_
   refine Y_move ?_
   refine Y_load F.lay23 ?_
   refine X_fs rfl rfl F.ok55 rfl (Owner_ok _ ⟨l_a, l_c, l_l⟩ id (k_l.mono (by assumption))) rfl ?_
   rintro _ hv
   obtain ⟨⟨ow, co⟩, howe⟩ : ∃ x, ownerR l_l id = x := ⟨_, rfl⟩
   replace hv : _ = ofII (ownerR l_l id) := hv
   rw [howe] at hv
   subst hv
   refine Y_move ?_
   iterate 2 refine Y_extract ?_
   iterate 2 refine Y_assign ?_
   refine XD_end ?_
   refine K_then ?_
   refine Y_pk [12, 11, 10, 9, 8, 7, 0, 2] ?_
   iterate 2 refine C_seq ?_
   obtain ⟨⟨TS, ce⟩, hset⟩ : ∃ x, settledT l_l r = x := ⟨_, rfl⟩
   simp only [hset] at e5 ⊢
   have hcode := settled_code hset
   have hl0 : ce = 0 ∨ t5l.length = 0 := by
    rcases hcode with ⟨g1, _⟩ | ⟨_, g2⟩
    ·exact .inl g1
    ·rw [g2] at e5; have h9 := congrArg List.length e5; rw [List.length_map] at h9; exact .inr h9
   refine C_region (l := [0, 1, 2, 3, 4, 5, 6, 7, 8, 9, 10, 11, 12, 13, 14, 15]) rfl ?_
   refine Y_move ?_
   refine Y_cmp ?_
   refine Y_move ?_
   refine XD_part 45 rfl (fun hc3 => ?_) (fun hc3 => ?_)
   ·replace hc3 := nT hc3
    iterate 2 refine Y_skip ?_
    refine Y_pick ?_
    refine Y_move ?_
    iterate 2 refine Y_skip ?_
    refine Y_pick ?_
    refine Y_move ?_
    iterate 4 refine Y_skip ?_
    refine Y_pick ?_
    refine XD_end ?_
    refine K_then ?_
    refine Y_pk [58, 11, 9, 8, 7, 0, 2] ?_
    refine C_true rfl ?_
    refine C_seq ?_
    refine C_region (l := [0, 1]) rfl ?_
    refine X_fn rfl rfl F.ok50 rfl (walked_ok _) rfl ?_
    rintro _ M9 hm9 rfl
    refine Y_assign ?_
    refine XD_end ?_
    refine K_then ?_
    refine Y_pk [8, 11, 9, 7, 0, 2] ?_
    refine C_ret ?_
    refine K_ret ?_
    refine K_end (.inr rfl) (.tmp rfl .nil) (fun w hw => ?_)
    refine ⟨_, _, rfl, (by (repeat first | assumption | refine Mem.le.trans (by assumption) ?_)), hw.c, ?_⟩
    clear hw
    rfl
   ·replace hc3 := nF hc3
    refine Y_move ?_
    refine Y_cmp ?_
    refine Y_pick ?_
    refine Y_move ?_
    refine XD_part 49 rfl (fun hc4 => ?_) (fun hc4 => ?_)
    ·replace hc4 := nT hc4
     iterate 2 refine Y_skip ?_
     refine Y_pick ?_
     refine Y_move ?_
     iterate 4 refine Y_skip ?_
     refine Y_pick ?_
     refine XD_end ?_
     refine K_then ?_
     refine Y_pk [58, 11, 9, 8, 7, 0, 2] ?_
     refine C_true rfl ?_
     refine C_seq ?_
     refine C_region (l := [0, 1]) rfl ?_
     refine X_fn rfl rfl F.ok50 rfl (walked_ok _) rfl ?_
     rintro _ M9 hm9 rfl
     refine Y_assign ?_
     refine XD_end ?_
     refine K_then ?_
     refine Y_pk [8, 11, 9, 7, 0, 2] ?_
     refine C_ret ?_
     refine K_ret ?_
     refine K_end (.inr rfl) (.tmp rfl .nil) (fun w hw => ?_)
     refine ⟨_, _, rfl, (by (repeat first | assumption | refine Mem.le.trans (by assumption) ?_)), hw.c, ?_⟩
     clear hw
     rfl
    ·replace hc4 := nF hc4
     refine Y_move ?_
     refine Y_cmp ?_
     refine Y_pick ?_
     refine Y_move ?_
     refine XD_part 53 rfl (fun hc5 => ?_) (fun hc5 => ?_)
     ·replace hc5 := dT hc5
      iterate 4 refine Y_skip ?_
      refine Y_pick ?_
      refine XD_end ?_
      refine K_then ?_
      refine Y_pk [58, 11, 9, 8, 7, 0, 2] ?_
      refine C_true rfl ?_
      refine C_seq ?_
      refine C_region (l := [0, 1]) rfl ?_
      refine X_fn rfl rfl F.ok50 rfl (walked_ok _) rfl ?_
      rintro _ M9 hm9 rfl
      refine Y_assign ?_
      refine XD_end ?_
      refine K_then ?_
      refine Y_pk [8, 11, 9, 7, 0, 2] ?_
      refine C_ret ?_
      refine K_ret ?_
      refine K_end (.inr rfl) (.tmp rfl .nil) (fun w hw => ?_)
      refine ⟨_, _, rfl, (by (repeat first | assumption | refine Mem.le.trans (by assumption) ?_)), hw.c, ?_⟩
      clear hw
      rfl
     ·replace hc5 := dF hc5
      iterate 2 refine Y_move ?_
      refine Y_len_sl F.elem26 ?_
      refine Y_cmp ?_
      refine Y_pick ?_
      refine XD_end ?_
      refine K_then ?_
      refine Y_pk [58, 11, 9, 8, 7, 0, 2] ?_
      refine C_cond rfl (fun hc6 => ?_) (fun hc6 => ?_)
      ·replace hc6 := dT hc6
       refine C_seq ?_
       refine C_region (l := [0, 1]) rfl ?_
       refine X_fn rfl rfl F.ok50 rfl (walked_ok _) rfl ?_
       rintro _ M9 hm9 rfl
       refine Y_assign ?_
       refine XD_end ?_
       refine K_then ?_
       refine Y_pk [8, 11, 9, 7, 0, 2] ?_
       refine C_ret ?_
       refine K_ret ?_
       refine K_end (.inr rfl) (.tmp rfl .nil) (fun w hw => ?_)
       refine ⟨_, _, rfl, (by (repeat first | assumption | refine Mem.le.trans (by assumption) ?_)), hw.c, ?_⟩
       clear hw
       rfl
      ·replace hc6 := dF hc6
       refine C_skip ?_
       refine K_then ?_
       refine Y_pk [11, 9, 8, 7, 0, 2] ?_
       refine C_seq ?_
       obtain ⟨rfl, hc, rn, rfl, hr1, hr2, rfl⟩ := hcode.resolve_right (fun h9 => by omega)
       obtain ⟨n, rfl⟩ : ∃ n : Nat, i = n := ⟨i.toNat, by omega⟩
       have hn : n < l_l.length := by omega
       have hc1 := hc.1
       obtain ⟨o9, hog⟩ : ∃ o, ownerI l_l id = o := ⟨_, rfl⟩
       have ho9 : o9 < l_l.length := by rw [← hog]; exact ownerI_lt (by omega)
       rw [show ownerR l_l id = (((o9 : Nat) : Int), 0) by unfold ownerR; rw [if_pos hc, hog]] at howe
       obtain ⟨rfl, rfl⟩ : ((o9 : Nat) : Int) = ow ∧ (0 : Int) = co := ⟨congrArg Prod.fst howe, congrArg Prod.snd howe⟩
       obtain ⟨R6, hW, hE, hL0, hL1, hH0, hW64⟩ := walk_ends hc hr1 hr2 (x := id) hn
       have s_l5 := s_l.mono hm5
       obtain ⟨g9, hg9⟩ : ∃ q, (o9 + l_l.length - 1) % l_l.length = q := ⟨_, rfl⟩
       have hgl : g9 < l_l.length := by rw [← hg9]; exact Nat.mod_lt _ (by omega)
       refine C_region (l := [0, 1, 2, 3, 4, 5, 6, 7, 8, 9, 10, 11]) rfl ?_
       iterate 2 refine Y_move ?_
       refine X_fs rfl rfl F.ok56 rfl (Arc_ok _ ⟨l_a, l_c, l_l⟩ _ (k_l.mono (by assumption))) rfl ?_
       rintro _ hv
       replace hv : _ = ofArc (arcR l_l ((o9 : Nat) : Int)) := hv
       rw [arcR_yes hc ho9] at hv
       simp only [hg9] at hv
       subst hv
       refine Y_move ?_
       iterate 3 refine Y_extract ?_
       refine Y_alloc F.zero23 ?_; intro b7
       refine Y_alloc F.zero23 ?_; intro b8
       iterate 2 refine Y_store F.lay23 ?_
       refine Y_assign ?_
       refine XD_end ?_
       refine K_then ?_
       refine Y_pk [15, 13, 9, 8, 7, 0, 2] ?_
       refine C_seq ?_
       refine C_region_any (l := [0, 1, 2, 3, 4, 5, 6, 7, 8, 9, 10, 11, 12, 13]) #[0, 0, 0, 6, 14, 30, 0, 127, 255, 511, 511, 0, 3071, 8191] _ rfl (by kernel_rfl) (by kernel_rfl) St.drawn (fun _ h => h) ?_
       iterate 3 refine Y_move ?_
       refine X_indexAddr rfl rfl rfl rfl F.elem26 (by rfl) (by omega) (by exact SlM.plain (by assumption) (by (simp; omega))) rfl ?_
       refine X_fieldAddr_el rfl rfl rfl (by exact SlM.plain (by assumption) (by (simp; omega))) F.foff25_0 rfl ?_
       refine X_load_el rfl rfl rfl (by assumption) (by exact row_map (by omega)) F.lay3 rfl rfl rfl ?_
       refine Y_load F.lay23 ?_
       refine X_fn rfl rfl F.ok48 rfl (Walk_ok _ ⟨t5a, t5c, t5l⟩ l_l[n].addr id (64) (kt5.mono (by exact Mem.le.refl _)) (fun y hy => (okt5 y hy).mono (by exact Mem.le.refl _))) rfl ?_
       rintro _ M6 hm6 h6
       rw [e5, hW64] at h6
       obtain ⟨_, rfl, ⟨⟨r6a, r6c, r6l⟩, ⟨x6a, x6i⟩⟩, rfl, e6, ok6⟩ := h6
       simp only at e6
       subst e6
       simp only at hE hL0 hL1 hH0
       have s_l6 := s_l5.mono hm6
       have s_r6 := ok6.h0.h1
       simp only at s_r6
       have n_r6 : (r6l.map (oneI .i64)).length = r6l.length := List.length_map ..
       have m_r6 : r6l.length ≤ 9223372036854775807 := ok6.h0.h2
       have hga : ∀ j (hj : j < r6l.length), r6l.getD j 0 = r6l[j] := fun j hj => by rw [List.getD_eq_getElem?_getD, List.getElem?_eq_getElem hj]; rfl
       refine Y_move ?_
       iterate 2 refine Y_extract ?_
       refine Y_alloc F.zero63 ?_; intro b9
       refine Y_store F.lay63 ?_
       refine Y_assign ?_
       refine XD_end ?_
       refine K_then ?_
       refine Y_pk [17, 16, 15, 13, 8, 0] ?_
       iterate 2 refine C_seq ?_
       refine C_region (l := [0, 1, 2, 3, 4, 5, 6, 7, 8, 9, 10, 11]) rfl ?_
       refine Y_move ?_
       refine Y_cmp ?_
       refine Y_move ?_
       refine XD_part 80 rfl (fun hc10 => ?_) (fun hc10 => ?_)
       ·replace hc10 := nT hc10
        simp only [PeerV.eta, TableV.eta, RouteV.eta] at hc10
        (exfalso; simp [eqX] at hc10; done)
       ·replace hc10 := nF hc10
        simp only [PeerV.eta, TableV.eta, RouteV.eta] at hc10
        refine Y_move ?_
        refine Y_cmp ?_
        refine Y_pick ?_
        refine Y_move ?_
        refine XD_part 84 rfl (fun hc11 => ?_) (fun hc11 => ?_)
        ·replace hc11 := nT hc11
         simp only [PeerV.eta, TableV.eta, RouteV.eta] at hc11
         (exfalso; simp [eqX] at hc11; done)
        ·replace hc11 := nF hc11
         simp only [PeerV.eta, TableV.eta, RouteV.eta] at hc11
         refine Y_fieldAddr F.foff63_0 ?_
         refine Y_load F.lay41 ?_
         refine Y_len_sl F.elem41 ?_
         refine Y_cmp ?_
         refine Y_pick ?_
         refine XD_end ?_
         refine K_then ?_
         refine Y_pk [89, 16, 13, 8, 0] ?_
         refine C_cond rfl (fun hc12 => ?_) (fun hc12 => ?_)
         ·replace hc12 := dT hc12
          (exfalso; first | omega | exact absurd hL1 (by assumption) | exact absurd (by assumption) hL2 | exact absurd (by assumption) hL3)
         ·replace hc12 := dF hc12
          refine C_skip ?_
          refine K_then ?_
          refine Y_pk [16, 13, 8, 0] ?_
          iterate 2 refine C_seq ?_
          refine C_region (l := [0]) rfl ?_
          refine Y_assign ?_
          refine XD_end ?_
          refine K_then ?_
          refine C_block ?_
          refine Y_pk [18, 16, 13, 8, 0] ?_
          refine C_loopS (.succ .zero) (fun (k : Nat) z => z = [(18, .int .i64 ((k + 1 : Nat) : Int))] ∧ k + 1 ≤ r6l.length) (fun k => r6l.length - k) (0) (⟨rfl, by omega⟩) ?_
          rintro k _ ⟨rfl, hk⟩
          iterate 2 refine C_seq ?_
          refine C_region (l := [0, 1, 2, 3, 4]) rfl ?_
          refine Y_move ?_
          refine Y_fieldAddr F.foff63_0 ?_
          refine Y_load F.lay41 ?_
          refine Y_len_sl F.elem41 ?_
          refine Y_cmp ?_
          refine XD_end ?_
          refine K_then ?_
          refine C_cond rfl (fun hc13 => ?_) (fun hc13 => ?_)
          ·replace hc13 := dT hc13
           refine C_skip ?_
           refine K_then ?_
           refine C_seq ?_
           refine C_block ?_
           refine C_seq ?_
           obtain ⟨a9, b9, ha, hb, hka, hkb, hlt⟩ := hops_halve hc hr1 hW64 ho9 hog hgl hg9 (k := k) (by show k + 1 < r6l.length; omega)
           simp only at hka hkb
           rw [hga k (by omega)] at hka
           rw [hga (k + 1) (by omega)] at hkb
           obtain ⟨hL1, hL2, hL3⟩ := half_less hlt
           refine C_region (l := [0, 1, 2, 3, 4, 5, 6, 7, 8, 9, 10, 11, 12, 13]) rfl ?_
           refine Y_move ?_
           refine Y_fieldAddr F.foff63_0 ?_
           refine Y_load F.lay41 ?_
           refine Y_move ?_
           refine X_ari rfl rfl rfl rfl rfl (by exact wrap_in (by decide) (by omega)) rfl ?_
           rw [show (((k + 1 : Nat) : Int) - 1) = (k : Int) by omega]
           refine X_indexAddr rfl rfl rfl rfl F.elem41 (by rfl) (by omega) (by exact SlM.plain (by assumption) (by (simp; omega))) rfl ?_
           refine X_load_el rfl rfl rfl (by assumption) (by exact row_map (by omega)) F.lay3 rfl rfl rfl ?_
           refine X_fs rfl rfl F.ok57 rfl (where_ok _ ⟨l_a, l_c, l_l⟩ _ (k_l.mono (by (repeat first | assumption | refine Mem.le.trans (by assumption) ?_)))) rfl ?_
           rintro _ hv
           simp only [List.get_eq_getElem, hka, wh_at hc ha] at hv
           subst hv
           refine Y_move ?_
           iterate 2 refine Y_extract ?_
           refine Y_alloc F.zero23 ?_; intro b14
           refine Y_store F.lay23 ?_
           refine Y_assign ?_
           refine XD_end ?_
           refine K_then ?_
           refine C_seq ?_
           refine C_region (l := [0, 1, 2, 3, 4, 5, 6, 7, 8, 9, 10, 11, 12]) rfl ?_
           refine Y_move ?_
           refine Y_fieldAddr F.foff63_0 ?_
           refine Y_load F.lay41 ?_
           refine Y_move ?_
           refine X_indexAddr rfl rfl rfl rfl F.elem41 (by rfl) (by omega) (by exact SlM.plain (by assumption) (by (simp; omega))) rfl ?_
           refine X_load_el rfl rfl rfl (by assumption) (by exact row_map (by omega)) F.lay3 rfl rfl rfl ?_
           refine X_fs rfl rfl F.ok57 rfl (where_ok _ ⟨l_a, l_c, l_l⟩ _ (k_l.mono (by (repeat first | assumption | refine Mem.le.trans (by assumption) ?_)))) rfl ?_
           rintro _ hv
           simp only [List.get_eq_getElem, hkb, wh_at hc hb] at hv
           subst hv
           refine Y_move ?_
           iterate 2 refine Y_extract ?_
           refine Y_alloc F.zero23 ?_; intro b15
           refine Y_store F.lay23 ?_
           refine Y_assign ?_
           refine XD_end ?_
           refine K_then ?_
           iterate 2 refine C_seq ?_
           refine C_region (l := [0, 1, 2, 3, 4, 5]) rfl ?_
           refine Y_move ?_
           refine Y_not ?_
           refine Y_move ?_
           refine XD_part 120 rfl (fun hc16 => ?_) (fun hc16 => ?_)
           ·skip
            simp only [PeerV.eta, TableV.eta, RouteV.eta] at hc16
            (exfalso; simp [eqX] at hc16; done)
           ·skip
            simp only [PeerV.eta, TableV.eta, RouteV.eta] at hc16
            refine Y_move ?_
            refine Y_not ?_
            refine Y_pick ?_
            refine XD_end ?_
            refine K_then ?_
            refine C_cond rfl (fun hc17 => ?_) (fun hc17 => ?_)
            ·skip
             simp only [PeerV.eta, TableV.eta, RouteV.eta] at hc17
             (exfalso; simp [eqX] at hc17; done)
            ·skip
             simp only [PeerV.eta, TableV.eta, RouteV.eta] at hc17
             refine C_skip ?_
             refine K_then ?_
             refine C_seq ?_
             refine C_region (l := [0, 1, 2, 3, 4]) rfl ?_
             iterate 2 refine Y_load F.lay23 ?_
             refine X_fs rfl rfl F.ok58 rfl (Minus_ok _ _ _) rfl ?_
             rintro _ rfl
             refine Y_alloc F.zero23 ?_; intro b18
             refine Y_store F.lay23 ?_
             refine XD_end ?_
             refine K_then ?_
             refine C_seq ?_
             refine C_region (l := [0, 1, 2, 3, 4]) rfl ?_
             iterate 2 refine Y_load F.lay23 ?_
             refine X_fs rfl rfl F.ok58 rfl (Minus_ok _ _ _) rfl ?_
             rintro _ rfl
             refine Y_alloc F.zero23 ?_; intro b19
             refine Y_store F.lay23 ?_
             refine XD_end ?_
             refine K_then ?_
             refine C_seq ?_
             refine C_region (l := [0, 1, 2, 3, 4]) rfl ?_
             iterate 2 refine Y_load F.lay23 ?_
             refine X_fs rfl rfl F.ok46 rfl (Plus_ok _ _ _) rfl ?_
             rintro _ rfl
             refine Y_alloc F.zero23 ?_; intro b20
             refine Y_store F.lay23 ?_
             refine XD_end ?_
             refine K_then ?_
             refine C_seq ?_
             refine C_cutX (α := Unit) (fun _ => [(146, .bool false)]) (fun _ => True) (.cons (k := 25) rfl (.cons (k := 132) rfl (.cons (k := 131) rfl (.cons (k := 130) rfl (.cons (k := 24) rfl (.cons (k := 129) rfl (.cons (k := 128) rfl (.cons (k := 127) rfl (.cons (k := 23) rfl (.cons (k := 126) rfl (.cons (k := 125) rfl (.cons (k := 124) rfl (.cons (k := 123) rfl (.cons (k := 122) rfl (.cons (k := 121) rfl (.cons (k := 120) rfl (.cons (k := 119) rfl (.cons (k := 118) rfl (.cons (k := 22) rfl (.cons (k := 21) rfl (.cons (k := 117) rfl (.cons (k := 116) rfl (.cons (k := 108) rfl (.cons (k := 115) rfl (.cons (k := 114) rfl (.cons (k := 113) rfl (.cons (k := 112) rfl (.cons (k := 111) rfl (.cons (k := 110) rfl (.cons (k := 109) rfl (.cons (k := 20) rfl (.cons (k := 19) rfl (.cons (k := 107) rfl (.cons (k := 106) rfl (.cons (k := 97) rfl (.cons (k := 105) rfl (.cons (k := 104) rfl (.cons (k := 103) rfl (.cons (k := 102) rfl (.cons (k := 101) rfl (.cons (k := 100) rfl (.cons (k := 99) rfl (.cons (k := 98) rfl (.cons (k := 94) rfl (.cons (k := 93) rfl (.cons (k := 92) rfl (.cons (k := 91) rfl (.cons (k := 90) rfl (.cons (k := 18) rfl (.cons (k := 16) rfl (.cons (k := 13) rfl (.cons (k := 8) rfl (.cons (k := 0) rfl .nil))))))))))))))))))))))))))))))))))))))))))))))))))))) ?_ ?_
             ·skip
              refine C_region (l := [0, 1, 2, 3, 4, 5, 6, 7, 8, 9, 10, 11, 12, 13]) rfl ?_
              iterate 2 refine Y_load F.lay23 ?_
              refine X_fs rfl rfl F.ok59 rfl (Less_ok _ _ _) rfl ?_
              rintro _ rfl
              refine Y_not ?_
              refine Y_move ?_
              refine XD_part 137 rfl (fun hc21 => ?_) (fun hc21 => ?_)
              ·replace hc21 := nT hc21
               simp only [PeerV.eta, TableV.eta, RouteV.eta] at hc21
               (exfalso; first | omega | exact absurd hL1 (by assumption) | exact absurd (by assumption) hL2 | exact absurd (by assumption) hL3)
              ·replace hc21 := nF hc21
               simp only [PeerV.eta, TableV.eta, RouteV.eta] at hc21
               iterate 2 refine Y_load F.lay23 ?_
               refine X_fs rfl rfl F.ok59 rfl (Less_ok _ _ _) rfl ?_
               rintro _ rfl
               refine Y_pick ?_
               refine Y_move ?_
               refine XD_part 142 rfl (fun hc22 => ?_) (fun hc22 => ?_)
               ·replace hc22 := dT hc22
                simp only [PeerV.eta, TableV.eta, RouteV.eta] at hc22
                (exfalso; first | omega | exact absurd hL1 (by assumption) | exact absurd (by assumption) hL2 | exact absurd (by assumption) hL3)
               ·replace hc22 := dF hc22
                simp only [PeerV.eta, TableV.eta, RouteV.eta] at hc22
                iterate 2 refine Y_load F.lay23 ?_
                refine X_fs rfl rfl F.ok59 rfl (Less_ok _ _ _) rfl ?_
                rintro _ rfl
                refine Y_pick ?_
                refine XD_end ?_
                refine K_bool 146 rfl (fun hc23 => ?_) (fun hc23 => ?_)
                ·replace hc23 := dT hc23
                 simp only [PeerV.eta, TableV.eta, RouteV.eta] at hc23
                 (exfalso; first | omega | exact absurd hL1 (by assumption) | exact absurd (by assumption) hL2 | exact absurd (by assumption) hL3)
                ·replace hc23 := dF hc23
                 simp only [PeerV.eta, TableV.eta, RouteV.eta] at hc23
                 exact K_cutX (()) (trivial) (.cons (k := 146) rfl (.cons (k := 25) rfl (.cons (k := 132) rfl (.cons (k := 131) rfl (.cons (k := 130) rfl (.cons (k := 24) rfl (.cons (k := 129) rfl (.cons (k := 128) rfl (.cons (k := 127) rfl (.cons (k := 23) rfl (.cons (k := 126) rfl (.cons (k := 125) rfl (.cons (k := 124) rfl (.cons (k := 123) rfl (.cons (k := 122) rfl (.cons (k := 121) rfl (.cons (k := 120) rfl (.cons (k := 119) rfl (.cons (k := 118) rfl (.cons (k := 22) rfl (.cons (k := 21) rfl (.cons (k := 117) rfl (.cons (k := 116) rfl (.cons (k := 108) rfl (.cons (k := 115) rfl (.cons (k := 114) rfl (.cons (k := 113) rfl (.cons (k := 112) rfl (.cons (k := 111) rfl (.cons (k := 110) rfl (.cons (k := 109) rfl (.cons (k := 20) rfl (.cons (k := 19) rfl (.cons (k := 107) rfl (.cons (k := 106) rfl (.cons (k := 97) rfl (.cons (k := 105) rfl (.cons (k := 104) rfl (.cons (k := 103) rfl (.cons (k := 102) rfl (.cons (k := 101) rfl (.cons (k := 100) rfl (.cons (k := 99) rfl (.cons (k := 98) rfl (.cons (k := 94) rfl (.cons (k := 93) rfl (.cons (k := 92) rfl (.cons (k := 91) rfl (.cons (k := 90) rfl (.cons (k := 18) rfl (.cons (k := 16) rfl (.cons (k := 13) rfl (.cons (k := 8) rfl (.cons (k := 0) rfl .nil)))))))))))))))))))))))))))))))))))))))))))))))))))))) (fun w hw => by first | exact hw | exact hw.c)
             ·rintro _ -
              refine C_false rfl ?_
              refine C_skip ?_
              refine K_out ?_
              refine K_then ?_
              refine C_region (l := [0, 1, 2]) rfl ?_
              refine Y_move ?_
              refine X_ari rfl rfl rfl rfl rfl (by exact wrap_in (by decide) (by omega)) rfl ?_
              refine Y_assign ?_
              refine XD_end ?_
              refine K_roundS (a' := [(18, _)]) (k + 1) (.cons (k := 18) rfl (.cons (k := 16) rfl (.cons (k := 13) rfl (.cons (k := 8) rfl (.cons (k := 0) rfl (.nil)))))) (fun w hw => by first | exact hw | exact hw.c) ?_ ?_
              ·exact ⟨rfl, by omega⟩
              ·omega
          ·replace hc13 := dF hc13
           refine C_exit ?_
           iterate 2 refine K_exit ?_
           refine K_hit ?_
           refine K_then ?_
           refine Y_pk [16, 13, 8, 0] ?_
           refine C_seq ?_
           obtain ⟨_, hlast⟩ := hops_last hc hr1 hW64 ho9 hog hgl hg9
           simp only at hlast
           rw [hga _ (by omega)] at hlast
           refine C_region (l := [0, 1, 2, 3, 4, 5, 6, 7, 8, 9, 10, 11, 12, 13, 14, 15]) rfl ?_
           refine Y_move ?_
           refine Y_fieldAddr F.foff63_0 ?_
           refine Y_load F.lay41 ?_
           refine Y_fieldAddr F.foff63_0 ?_
           refine Y_load F.lay41 ?_
           refine Y_len_sl F.elem41 ?_
           refine X_ari rfl rfl rfl rfl rfl (by exact wrap_in (by decide) (by omega)) rfl ?_
           rw [show (((r6l.length : Nat) : Int) - 1) = ((r6l.length - 1 : Nat) : Int) by omega]
           refine X_indexAddr rfl rfl rfl rfl F.elem41 (by rfl) (by omega) (by exact SlM.plain (by assumption) (by (simp; omega))) rfl ?_
           refine X_load_el rfl rfl rfl (by assumption) (by exact row_map (by omega)) F.lay3 rfl rfl rfl ?_
           refine X_fs rfl rfl F.ok57 rfl (where_ok _ ⟨l_a, l_c, l_l⟩ _ (k_l.mono (by (repeat first | assumption | refine Mem.le.trans (by assumption) ?_)))) rfl ?_
           rintro _ hv
           simp only [List.get_eq_getElem, hlast, wh_at hc hgl] at hv
           subst hv
           refine Y_move ?_
           iterate 2 refine Y_extract ?_
           refine Y_alloc F.zero23 ?_; intro b24
           refine Y_store F.lay23 ?_
           refine Y_assign ?_
           refine XD_end ?_
           refine K_then ?_
           refine Y_pk [27, 26, 13, 8] ?_
           refine C_seq ?_
           refine C_region (l := [0, 1, 2, 3, 4, 5, 6, 7, 8, 9]) rfl ?_
           refine X_fn rfl rfl F.ok50 rfl (walked_ok _) rfl ?_
           rintro _ M9 hm9 rfl
           refine Y_move ?_
           refine XD_part 161 rfl (fun hc25 => ?_) (fun hc25 => ?_)
           ·skip
            simp only [PeerV.eta, TableV.eta, RouteV.eta] at hc25
            refine Y_move ?_
            refine Y_pick ?_
            refine Y_move ?_
            refine XD_part 164 rfl (fun hc26 => ?_) (fun hc26 => ?_)
            ·skip
             simp only [PeerV.eta, TableV.eta, RouteV.eta] at hc26
             iterate 2 refine Y_load F.lay23 ?_
             refine X_same (m := 20) rfl rfl rfl rfl rfl (by constructor) (by constructor) F.lay23 F.kinds23 rfl F.guard23 (fit_id fit_nil) (fit_id fit_nil) rfl rfl rfl ?_; intro c27 he28
             replace he28 : c27 = true ↔ Segs.cells _ = Segs.cells _ := he28
             obtain rfl := eqD he28 (cells_id1 (x := _) (y := _)); clear he28
             refine Y_pick ?_
             refine Y_assign ?_
             refine XD_end ?_
             refine K_then ?_
             refine Y_pk [8] ?_
             refine C_ret ?_
             refine K_end (.inr rfl) (.tmp rfl .nil) (fun w hw => ?_)
             refine ⟨_, _, rfl, (by (repeat first | assumption | refine Mem.le.trans (by assumption) ?_)), hw.c, ?_⟩
             clear hw
             (simp; rfl)
            ·skip
             simp only [PeerV.eta, TableV.eta, RouteV.eta] at hc26
             (exfalso; simp [eqX] at hc26; done)
           ·skip
            (exfalso; simp [eqX] at hc25; done)

end Go.Proofs.Ytbjklbmmchiahaa
