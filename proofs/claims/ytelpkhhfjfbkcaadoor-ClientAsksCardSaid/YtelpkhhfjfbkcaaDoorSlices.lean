/-
  Slices: those that never change, and those that are ours.
-/
import Derived.Test.YtelpkhhfjfbkcaaDoorRules
set_option linter.unusedSimpArgs false
set_option linter.unusedVariables false
set_option linter.unnecessarySimpa false
namespace Go.Esp

def rowsCells : List Segs → List Value
  | [] => []
  | r :: rs => Segs.cells r ++ rowsCells rs

theorem rowsCells_append : ∀ a b : List Segs, rowsCells (a ++ b) = rowsCells a ++ rowsCells b
  | [], _ => rfl
  | x :: a, b => by simp [rowsCells, rowsCells_append a b]

theorem rowsCells_cat : ∀ a : List Segs, Segs.cells (cat a) = rowsCells a
  | [] => rfl
  | x :: a => by simp [cat, Segs.cells_append, rowsCells, rowsCells_cat a]

def lens (sz : Nat) (rows : List Segs) : Prop := ∀ r ∈ rows, Segs.len r = sz

theorem lens.append {sz : Nat} {a b : List Segs} (ha : lens sz a) (hb : lens sz b) : lens sz (a ++ b) := fun r hr => by
  rcases List.mem_append.1 hr with h | h
  · exact ha r h
  · exact hb r h

theorem rowsCells_length {sz : Nat} : ∀ {rows : List Segs}, lens sz rows → (rowsCells rows).length = rows.length * sz
  | [], _ => by simp [rowsCells]
  | r :: rs, h => by
    simp only [rowsCells, List.length_append, List.length_cons, Segs.cells_length, h r (.head _), rowsCells_length (fun x hx => h x (.tail _ hx)), Nat.add_mul]
    omega

theorem rowsCells_at {sz : Nat} : ∀ {rows : List Segs} {i : Nat} {r : Segs}, lens sz rows → rows[i]? = some r → ((rowsCells rows).drop (i * sz)).take sz = Segs.cells r
  | [], i, r, _, h => by simp at h
  | x :: rs, 0, r, hl, h => by
    simp at h
    subst h
    have := hl x (.head _)
    simp [rowsCells, ← this, ← Segs.cells_length]
  | x :: rs, i + 1, r, hl, h => by
    have := hl x (.head _)
    simp only [rowsCells]
    rw [show (i + 1) * sz = (Segs.cells x).length + i * sz by rw [Segs.cells_length, this, Nat.add_mul]; omega, List.drop_append]
    simp only [Nat.add_sub_cancel_left]
    rw [List.drop_of_length_le (by omega), List.nil_append]
    exact rowsCells_at (fun y hy => hl y (.tail _ hy)) (by simpa using h)

/-- A slice that never changes, from a on: its elements' parts. -/
structure SlM (M : Mem) (a : Option Addr) (rows : List Segs) (sz : Nat) : Prop where
  lens : lens sz rows
  there : rows ≠ [] → ∃ b off c T fz, a = some ⟨b, off, none⟩ ∧ M b = some (.cells c T fz) ∧ (c.toList.drop off).take (rows.length * sz) = rowsCells rows

theorem SlM.mono {M M' : Mem} {a : Option Addr} {rows : List Segs} {sz : Nat} (h : SlM M a rows sz) (hm : M.le M') : SlM M' a rows sz :=
  ⟨h.lens, fun hn => let ⟨b, off, c, T, fz, h1, h2, h3⟩ := h.there hn; ⟨b, off, c, T, fz, h1, hm.1 _ _ h2, h3⟩⟩

theorem SlM.nil (M : Mem) (a : Option Addr) (sz : Nat) : SlM M a [] sz := ⟨fun r hr => (by cases hr), fun h => (h rfl).elim⟩

theorem SlM.at {M : Mem} {a : Option Addr} {rows : List Segs} {sz : Nat} (h : SlM M a rows sz) {i : Nat} {r : Segs} (hr : rows[i]? = some r) :
    ∃ b off c T fz, a = some ⟨b, off, none⟩ ∧ M b = some (.cells c T fz) ∧ (c.toList.drop (off + i * sz)).take sz = Segs.cells r ∧ Segs.len r = sz := by
  have hlt := (List.getElem?_eq_some_iff.1 hr).1
  obtain ⟨b, off, c, T, fz, h1, h2, h3⟩ := h.there (fun e => by rw [e] at hlt; cases hlt)
  refine ⟨b, off, c, T, fz, h1, h2, ?_, h.lens r (List.mem_of_getElem? hr)⟩
  rw [← rowsCells_at h.lens hr, ← h3, List.drop_take, List.take_take, List.drop_drop]
  congr 1
  have : (i + 1) * sz ≤ rows.length * sz := Nat.mul_le_mul_right _ hlt
  rw [Nat.add_mul] at this
  omega

/-- Where the cells off of the element j lie. -/
def eptr (a : Option Addr) (j sz off : Nat) : Value := .pointer (a.map (·.add (j * sz + off)))

theorem eptr_some (b o j sz off : Nat) : eptr (some ⟨b, o, none⟩) j sz off = .pointer (some ⟨b, o + (j * sz + off), none⟩) := by
  simp [eptr, Addr.add_lit]

/-- A slice of ours. -/
inductive OSl (T sz : Nat) : Value → Hp → List Segs → Prop
  | nil : OSl T sz (.slice none 0 0) [] []
  | own (b c : Nat) (rows : List Segs) (cur : Array Value) : lens sz rows → rows.length ≤ c → c ≤ maxLen → cur.size = c * sz → cur.toList.take (rows.length * sz) = rowsCells rows →
      OSl T sz (.slice (some ⟨b, 0, none⟩) rows.length c) [(b, .cells cur T (0, 0))] rows

theorem OSl.lens {T sz : Nat} {v : Value} {hs : Hp} {rows : List Segs} (h : OSl T sz v hs rows) : lens sz rows := by
  cases h with
  | nil => intro r hr; cases hr
  | own _ _ _ _ h => exact h

/-- What a slice's value is like. -/
theorem OSl.val {T sz : Nat} {v : Value} {hs : Hp} {rows : List Segs} (h : OSl T sz v hs rows) : ∃ a c, v = .slice a rows.length c := by
  cases h with
  | nil => exact ⟨_, _, rfl⟩
  | own => exact ⟨_, _, rfl⟩

/-- hs is among H; H0 are the others. -/
inductive Rem (hs : Hp) : Hp → Hp → Prop
  | here (H0 : Hp) : Rem hs (hs ++ H0) H0
  | skip {x : Nat × Obj} {H H0 : Hp} : Rem hs H H0 → Rem hs (x :: H) (x :: H0)
  | over {gs H H0 : Hp} : Rem hs H H0 → Rem hs (gs ++ H) (gs ++ H0)

theorem St.perm {M : Mem} {H H' : Hp} {w : World} (h : St M H w) (hp : H.Perm H') : St M H' w :=
  ⟨h.mem, fun b o hb => h.own b o (hp.mem_iff.2 hb), fun b o hb => h.sep b o (hp.mem_iff.2 hb), (hp.map _).nodup_iff.1 h.nodup, h.io⟩

theorem Rem.perm {hs H H0 : Hp} (h : Rem hs H H0) : H.Perm (hs ++ H0) := by
  induction h with
  | here => exact List.Perm.refl _
  | @skip x H H0 _ ih => exact (ih.cons x).trans (List.perm_middle.symm)
  | @over gs H H0 _ ih =>
    refine (ih.append_left gs).trans ?_
    rw [← List.append_assoc, ← List.append_assoc]
    exact (List.perm_append_comm).append_right _

theorem St.frame {M : Mem} {hs hs' H0 : Hp} {w w' : World} (h : St M (hs ++ H0) w) (h1 : ∀ b o, M b = some o → w'.heap[b]? = some o) (h2 : ∀ b o, (b, o) ∈ H0 → w'.heap[b]? = some o) (h3 : ∀ b o, (b, o) ∈ hs' → w'.heap[b]? = some o)
    (h4 : ∀ b o, (b, o) ∈ hs' → M b = none) (h5 : ((hs' ++ H0).map Prod.fst).Nodup) (hio : SameIO w w') : St M (hs' ++ H0) w' :=
  ⟨h1, fun b o hb => by rcases List.mem_append.1 hb with hb | hb; exact h3 b o hb; exact h2 b o hb,
    fun b o hb => by rcases List.mem_append.1 hb with hb | hb; exact h4 b o hb; exact h.sep b o (List.mem_append_right _ hb), h5, hio.1.trans h.io.1, hio.2.1.trans h.io.2.1, hio.2.2.trans h.io.2.2⟩

theorem cellsAt {w : World} {b off : Nat} {c : Array Value} {T : TypeId} {fz : Nat × Nat} {xs : List Value} (hb : w.heap[b]? = some (.cells c T fz)) {n : Nat} (hx : (c.toList.drop off).take n = xs) :
    ∀ j v, xs[j]? = some v → w.cell? ((⟨b, off, none⟩ : Addr).add j) = some v := by
  intro j v hj
  rw [Addr.add_lit, cell_of_row hb]
  rw [← hx, List.getElem?_take, List.getElem?_drop] at hj
  split at hj
  · simpa using hj
  · cases hj

section
variable {P : Program}

/-- append to a slice of ours: it stays where it is, or lies anew. -/
theorem run_append' {t E sz by_ : Nat} {z : Value} (ht : slOf P t = some (E, sz, by_)) (hz : zeroOf P E = some z) (hzs : z.cells.size = sz) (hsz : 0 < sz) {v : Value} {hs : Hp} {rows : List Segs} (ho : OSl E sz v hs rows)
    {a : Addr} {m c : Nat} {news : List Segs} (hl : lens sz news) (hm : news.length = m) {w : World} (hn : ∀ j u, (rowsCells news)[j]? = some u → w.cell? (a.add j) = some u) (h1 : ∀ u ∈ rowsCells news, u.oneCell' = true)
    (h63 : rows.length + m ≤ maxLen) (hby : (rows.length + m) * by_ ≤ 140737488355328) (ty : TypeId) {M : Mem} {H0 : Hp} (hst : St M (hs ++ H0) w) :
    ∃ v' w' hs', (Builtin.append_ #[t, t] ty #[v, .slice (some a) m c]).run P w = .ok v' w' ∧ OSl E sz v' hs' (rows ++ news) ∧ St M (hs' ++ H0) w' := by
  obtain ⟨i, hu, hi, rfl, rfl⟩ := elemOf_spec ht
  have hz' : i.zero = some z := by simpa [zeroOf, hi] using hz
  have hsmall : rows.length + m ≤ 9223372036854775807 := by simp only [maxLen] at h63; omega
  have hnl : (rowsCells news).length = m * i.size := by rw [rowsCells_length hl, hm]
  have hall : lens i.size (rows ++ news) := ho.lens.append hl
  have hlen : (rows ++ news).length = rows.length + m := by simp [hm]
  -- a new row
  have grown : ∀ old, old < rows.length + m → ∃ hs', OSl E i.size (.slice (some ⟨w.heap.size, 0, none⟩) (rows.length + m) (grownCap w (rows.length + m) old E)) hs' (rows ++ news) ∧
      St M (hs' ++ H0) (w.drew.alloc (.cells ((rowsCells rows).toArray ++ (rowsCells news).toArray ++ Builtin.zeroCells z.cells (grownCap w (rows.length + m) old E - (rows.length + m))) E)) := by
    intro old hold
    have hge := grownCap_ge w (rows.length + m) old E
    have hcm : grownCap w (rows.length + m) old E ≤ maxLen := grownCap_le_maxLen w (rows.length + m) old E h63
    have h2 : St M ([(w.heap.size, .cells ((rowsCells rows).toArray ++ (rowsCells news).toArray ++ Builtin.zeroCells z.cells (grownCap w (rows.length + m) old E - (rows.length + m))) E)] ++ H0)
        (w.drew.alloc (.cells ((rowsCells rows).toArray ++ (rowsCells news).toArray ++ Builtin.zeroCells z.cells (grownCap w (rows.length + m) old E - (rows.length + m))) E)) := by
      have h0 : St M H0 w.drew := (hst.suf (H' := H0) (Suf.app hs H0)).heap rfl (SameIO.refl _)
      exact h0.alloc _
    refine ⟨_, ?_, h2⟩
    · rw [← hlen] at hge hcm ⊢
      refine OSl.own _ _ _ _ hall hge hcm ?_ ?_
      · simp only [Array.size_append, List.size_toArray, size_zeroCells, hzs, rowsCells_length ho.lens, hnl]
        rw [hlen, ← Nat.add_mul, ← Nat.add_mul]
        congr 1
        rw [hlen] at hge
        omega
      · simp only [Array.toList_append]
        rw [← rowsCells_length hall, rowsCells_append]
        exact List.take_left
  cases ho with
  | nil =>
    by_cases hm0 : m = 0
    · subst hm0
      have hnn : news = [] := List.eq_nil_of_length_eq_zero hm
      subst hnn
      refine ⟨.slice none 0 0, w, [], ?_, OSl.nil, hst⟩
      simp [Builtin.append_, run_underlying hu, sizeOf, typeInfo, hi, Builtin.lenOf, Builtin.firstCells, loadCells, loadCellsFrom]
    · have hr := run_append_nil (P := P) w t ty E i z hu hi hz' a m c (rowsCells news) hnl hn (by omega) (by simp at hsmall; omega) (by have hb := hby; simp only [List.length_nil, Nat.zero_add] at hb; omega)
      obtain ⟨hs', g1, g2⟩ := grown 0 (by simp; omega)
      simp only [List.length_nil, Nat.zero_add, rowsCells, List.nil_append] at g1 g2 hr
      exact ⟨_, _, hs', hr, g1, by simpa using g2⟩
  | own b cap _ cur hlr hcap hcm hcs htake =>
    have hb := hst.own b _ (List.mem_append_left _ (.head _))
    by_cases hroom : rows.length + m ≤ cap
    · have hfit : rows.length * i.size + (rowsCells news).length ≤ cur.size := by rw [hnl, hcs, ← Nat.add_mul]; exact Nat.mul_le_mul_right _ hroom
      have hr := run_append_room (P := P) w t ty E i hu hi b rows.length cap cur hb a m c (rowsCells news) hnl hn h1 hroom hfit
      have h2 : St M ([(b, .cells (cur.toList.take (rows.length * i.size) ++ rowsCells news ++ cur.toList.drop (rows.length * i.size + (rowsCells news).length)).toArray E (0, 0))] ++ H0)
          (w.setRow b (cur.toList.take (rows.length * i.size) ++ rowsCells news ++ cur.toList.drop (rows.length * i.size + (rowsCells news).length)).toArray) := by
        refine hst.frame (hs' := [(b, _)]) (fun k o hk => ?_) (fun k o hk => ?_) (fun k o hk => ?_) (fun k o hk => ?_) ?_ (SameIO.refl _)
        · rw [setRow_other w b k _ (fun e => ?_)]
          · exact hst.mem k o hk
          · subst e; have := hst.sep k _ (List.mem_append_left _ (.head _)); rw [this] at hk; cases hk
        · rw [setRow_other w b k _ (fun e => ?_)]
          · exact hst.own k o (List.mem_append_right _ hk)
          · subst e
            have := hst.nodup
            simp only [List.map_cons, List.cons_append, List.nil_append, List.nodup_cons] at this
            exact this.1 (List.mem_map.2 ⟨_, hk, rfl⟩)
        · simp only [List.mem_singleton, Prod.mk.injEq] at hk
          obtain ⟨rfl, rfl⟩ := hk
          exact setRow_heap w k cur _ E _ hb
        · simp only [List.mem_singleton, Prod.mk.injEq] at hk
          obtain ⟨rfl, rfl⟩ := hk
          exact hst.sep k _ (List.mem_append_left _ (.head _))
        · simpa using hst.nodup
      refine ⟨_, _, _, hr, ?_, h2⟩
      · rw [← hlen]
        refine OSl.own b cap _ _ hall (by omega) hcm ?_ ?_
        · simp only [List.size_toArray, List.length_append, List.length_take, List.length_drop, Array.length_toList]
          omega
        · rw [htake, ← rowsCells_length hall, rowsCells_append]
          exact List.take_left
    · have hr := run_append_grow (P := P) w t ty E i z hu hi hz' ⟨b, 0, none⟩ rows.length cap (rowsCells rows) (rowsCells_length hlr) (cellsAt hb (by simpa using htake)) a m c (rowsCells news) hnl hn (by omega) (by omega) (growslice_fits (by omega) hby)
      obtain ⟨hs', g1, g2⟩ := grown cap (by omega)
      exact ⟨_, _, hs', hr, g1, g2⟩
end
end Go.Esp
