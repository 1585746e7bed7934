/-
  From a given statement to a walk: the arguments as they lie, and what is asked behind the call.
-/
import Derived.Test.YtelpkhhfjfbkcaaDoorMaps
import Derived.ProofKit
import Derived.OpenShut
set_option linter.unusedSimpArgs false
set_option linter.unusedVariables false
set_option linter.unnecessarySimpa false
namespace Go.Esp

def memOf (W : World) : Mem := ⟨fun b => W.heap[b]?, W.os, W.tape, W.output⟩

theorem St.start (W : World) : St (memOf W) [] W := ⟨fun _ _ h => h, fun _ _ h => (by cases h), fun _ _ h => (by cases h), List.nodup_nil, rfl, rfl, rfl⟩

theorem below_of {W W' : World} {M' : Mem} {H : Hp} (hm : (memOf W).le M') (h : St M' H W') : RowKit.Below W.heap.size W W' := by
  have hb : ∀ k o, W.heap[k]? = some o → W'.heap[k]? = some o := fun k o hk => h.mem k o (hm.1 k o hk)
  have hs : W.heap.size ≤ W'.heap.size := by
    rcases Nat.lt_or_ge W'.heap.size W.heap.size with h' | h'
    · have := hb W'.heap.size W.heap[W'.heap.size] (Array.getElem?_eq_getElem h')
      simp at this
    · exact h'
  refine ⟨h.io.1.trans hm.2.1, h.io.2.1.trans hm.2.2.1, h.io.2.2.trans hm.2.2.2, hs, fun k hk => ?_⟩
  rw [Array.getElem?_eq_getElem hk]
  exact hb k _ (Array.getElem?_eq_getElem hk)

/-- What a value of a type is like, as parts. -/
def Ty (P : Program) (M : Mem) : Nat → TypeId → Segs → Prop
  | 0, _, _ => False
  | m + 1, t, R => match P.underlying t with
    | some .bool => ∃ b, R = [.one (.bool b)]
    | some (.int k) => ∃ n, R = [.one (.int k n)] ∧ (Lit.int k n).wf = true
    | some .string => ∃ s : ByteArray, R = [.one (.string s)] ∧ s.size ≤ maxLen
    | some (.slice el) => ∃ a rows c, R = [.one (.slice a rows.length c)] ∧ (0 < P.cellsOf el → SlM M a rows (P.cellsOf el)) ∧ rows.length ≤ c ∧ c ≤ maxLen ∧ ∀ r ∈ rows, Ty P M m el r
    | some (.struct fs) => ∃ Rs : List Segs, R = cat Rs ∧ Rs.length = fs.size ∧ ∀ (i : Nat) (f : Field) (r : Segs), fs[i]? = some f → Rs[i]? = some r → Ty P M m f.type r
    | some (.array k el) => match P.underlying el with
      | some (.int q) => P.cellsOf el = 1 → ∃ f : Vector Value k, R = [.arr k f] ∧ ∀ i (h : i < k), ∃ z, f[i] = .int q z ∧ (Lit.int q z).wf = true
      | _ => True
    | _ => True

section
variable {H : Type} {enc : TypeId × Value → H} {P : Program} {w : World} {sp : Nat → Bool}

def ones (cs : List Value) : Segs := cs.map .one

theorem ones_cells : ∀ cs : List Value, Segs.cells (ones cs) = cs
  | [] => rfl
  | c :: cs => by
    have := ones_cells cs
    unfold ones at this ⊢
    simp [Segs.cells, Seg.cells, this]

theorem fields_cat {cs : List Value} : ∀ (sizes : List Nat) (off : Nat), (cs.drop off).length = sizes.sum →
    cs.drop off = ((List.range sizes.length).map fun i => (cs.drop (off + (sizes.take i).sum)).take (sizes.getD i 0)).flatten
  | [], off, h => by
    have : cs.drop off = [] := List.eq_nil_of_length_eq_zero (by simpa using h)
    simp [this]
  | n :: sizes, off, h => by
    simp only [List.sum_cons] at h
    have ih := fields_cat (cs := cs) sizes (off + n) (by rw [← List.drop_drop, List.length_drop, h]; omega)
    rw [List.length_cons, List.range_succ_eq_map, List.map_cons, List.flatten_cons]
    simp only [List.take_zero, List.sum_nil, Nat.add_zero, List.getD_cons_zero, List.map_map]
    have e : (List.map ((fun i => ((cs.drop (off + ((n :: sizes).take i).sum)).take ((n :: sizes).getD i 0))) ∘ Nat.succ) (List.range sizes.length)) =
        (List.range sizes.length).map fun i => (cs.drop (off + n + (sizes.take i).sum)).take (sizes.getD i 0) := by
      apply List.map_congr_left
      intro i _
      simp [Nat.add_assoc]
    rw [e, ← ih, ← List.drop_drop, List.take_append_drop]

theorem rows_of {c : Array Value} {sz : Nat} : ∀ (rows : List Segs) (off : Nat), lens sz rows → (∀ i r, rows[i]? = some r → (c.toList.drop (off + i * sz)).take sz = Segs.cells r) →
    (c.toList.drop off).take (rows.length * sz) = rowsCells rows
  | [], off, _, _ => by simp [rowsCells]
  | r :: rows, off, hl, h => by
    have h0 := h 0 r rfl
    simp only [Nat.zero_mul, Nat.add_zero] at h0
    have ih := rows_of (c := c) rows (off + sz) (fun x hx => hl x (.tail _ hx)) (fun i x hx => by
      have := h (i + 1) x (by simpa using hx)
      rw [Nat.add_mul] at this
      rw [← this]; congr 2; omega)
    rw [List.length_cons, Nat.add_mul, Nat.one_mul, Nat.add_comm (rows.length * sz) sz, List.take_add, List.drop_drop, ih, h0]
    rfl

theorem cells_some {base : Nat} {a : Addr} {n : Nat} {cs : List Value} (h : w.cells? base a n = some cs) : cs.length = n ∧ ∀ j v, cs[j]? = some v → w.cell? (a.add j) = some v := by
  unfold World.cells? at h
  split at h
  · have hl : cs.length = n := by
      have := mapM_some_length h
      simpa using this
    refine ⟨hl, fun j v hj => ?_⟩
    have hlt := (List.getElem?_eq_some_iff.1 hj).1
    have := mapM_some_get h j j (List.getElem?_range (by omega))
    rw [this]
    exact hj
  · cases h

theorem laid_struct (hl : laidOutB P = true) {t : TypeId} (ht : t < P.types.size) {fs : Array Field} (hu : P.underlying t = some (.struct fs)) :
    P.cellsOf t = (fs.toList.map fun f => P.cellsOf f.type).sum ∧ (∀ j f, fs.toList[j]? = some f → f.offset = ((fs.toList.take j).map fun f => P.cellsOf f.type).sum) ∧ ∀ f ∈ fs.toList, f.type < P.types.size := by
  unfold laidOutB at hl
  simp only [Bool.and_eq_true] at hl
  have h1 := List.all_eq_true.1 hl.1.1 t (List.mem_range.2 ht)
  unfold rowFine at h1
  rw [hu] at h1
  have hv : isVar P t = true := by simp [isVar, ht, hu, kindOk]
  simp only [hv, Bool.not_true, Bool.false_or, Bool.and_eq_true, beq_iff_eq, List.all_eq_true, List.mem_range] at h1
  refine ⟨h1.1.2, fun j f hj => ?_, fun f hf => ?_⟩
  · have := h1.2 j (List.getElem?_eq_some_iff.1 hj).1
    simp only [hj, beq_iff_eq] at this
    exact this
  · have := h1.1.1 f hf
    simp [isVar] at this
    exact this.1

theorem laid_elem (hl : laidOutB P = true) {t el : TypeId} (ht : t < P.types.size) (hu : P.underlying t = some (.slice el)) : el < P.types.size := by
  unfold laidOutB at hl
  simp only [Bool.and_eq_true] at hl
  have h1 := List.all_eq_true.1 hl.1.1 t (List.mem_range.2 ht)
  unfold rowFine at h1
  rw [hu] at h1
  have hv : isVar P t = true := by simp [isVar, ht, hu, kindOk]
  simp only [hv, Bool.not_true, Bool.false_or, Bool.and_eq_true] at h1
  have := h1.1
  simp [isVar] at this
  exact this.1

theorem ty_of_trod (hl : laidOutB P = true) : ∀ (n : Nat) (t : TypeId) (cs : List Value) (x : DataW H × List MemPlace), t < P.types.size → DataW.trod enc P w 0 sp true n t cs = some x →
    ∃ R, Segs.cells R = cs ∧ Ty P (memOf w) n t R := by
  intro n
  induction n with
  | zero => intro t cs x _ h; simp [DataW.trod] at h
  | succ n ih =>
    intro t cs x ht h
    have any : (∀ R, Ty P (memOf w) (n + 1) t R) → ∃ R, Segs.cells R = cs ∧ Ty P (memOf w) (n + 1) t R := fun hT => ⟨ones cs, ones_cells cs, hT _⟩
    cases hu : P.underlying t with
    | none => exact any fun R => by simp [Ty, hu]
    | some d =>
      cases d with
      | bool => obtain ⟨b, rfl, _⟩ := DataW.trod_bool hu h; exact ⟨[.one (.bool b)], rfl, by simp [Ty, hu]⟩
      | int k => obtain ⟨z, rfl, _, hw⟩ := DataW.trod_int hu h; exact ⟨[.one (.int k z)], rfl, by simp [Ty, hu, hw]⟩
      | string => obtain ⟨s, rfl, _, hs⟩ := DataW.trod_string hu h; exact ⟨[.one (.string s)], rfl, by simp [Ty, hu, hs]⟩
      | slice el =>
        rcases DataW.trod_slice hu h with ⟨rfl, _⟩ | ⟨a, len, cap, elems, rest, m, hm, rfl, _, hb, hlc, hcm, hel, hget, hsp⟩
        · refine ⟨[.one (.slice none 0 0)], rfl, ?_⟩
          simp only [Ty, hu]
          exact ⟨none, [], 0, rfl, fun _ => SlM.nil _ _ _, Nat.le_refl _, Nat.zero_le _, fun r hr => by cases hr⟩
        · cases hm
          have hrow : ∀ i, i < len → ∃ R cs', w.cells? 0 (a.add (i * P.cellsOf el)) (P.cellsOf el) = some cs' ∧ Segs.cells R = cs' ∧ Ty P (memOf w) n el R := by
            intro i hi
            have h1 := hget i hi
            obtain ⟨y, hy⟩ : ∃ y, elems[i]? = some y := ⟨elems[i], List.getElem?_eq_getElem (by omega)⟩
            rw [hy] at h1
            obtain ⟨cs', hc, hd⟩ := Option.bind_eq_some_iff.1 h1
            obtain ⟨R, hR, hT⟩ := ih el cs' y (laid_elem hl ht hu) hd
            exact ⟨R, cs', hc, hR, hT⟩
          have hrows : ∃ rows : List Segs, rows.length = len ∧ ∀ i r, rows[i]? = some r → w.cells? 0 (a.add (i * P.cellsOf el)) (P.cellsOf el) = some (Segs.cells r) ∧ Ty P (memOf w) n el r := by
            clear hel hget hlc h hsp any
            induction len with
            | zero => exact ⟨[], rfl, by simp⟩
            | succ k ihk =>
              obtain ⟨rows, h1, h2⟩ := ihk (fun i hi => hrow i (by omega))
              obtain ⟨R, cs', h3, h4, h5⟩ := hrow k (by omega)
              refine ⟨rows ++ [R], by simp [h1], fun i r hr => ?_⟩
              rcases Nat.lt_or_ge i rows.length with h' | h'
              · rw [List.getElem?_append_left h'] at hr
                exact h2 i r hr
              · rw [List.getElem?_append_right h'] at hr
                have hi : i - rows.length = 0 := by
                  have := (List.getElem?_eq_some_iff.1 hr).1
                  simp at this; omega
                rw [hi] at hr
                simp at hr
                subst hr
                have : i = k := by omega
                subst this
                exact ⟨by rw [h4]; exact h3, h5⟩
          obtain ⟨rows, h1, h2⟩ := hrows
          have hlens : lens (P.cellsOf el) rows := fun r hr => by
            obtain ⟨i, hi⟩ := List.getElem?_of_mem hr
            have := (cells_some (h2 i r hi).1).1
            rw [← Segs.cells_length]; exact this
          refine ⟨[.one (.slice (some a) rows.length cap)], by rw [h1]; rfl, ?_⟩
          simp only [Ty, hu]
          refine ⟨some a, rows, cap, rfl, fun hpos => ⟨hlens, fun hne => ?_⟩, by omega, hcm, fun r hr => ?_⟩
          · obtain ⟨r0, hr0⟩ : ∃ r, rows[0]? = some r := by
              cases rows with
              | nil => exact (hne rfl).elim
              | cons r rows => exact ⟨r, rfl⟩
            have hc0 := cells_some (h2 0 r0 hr0).1
            have hl0 : 0 < (Segs.cells r0).length := by rw [hc0.1]; exact hpos
            have hcell := hc0.2 0 _ (List.getElem?_eq_getElem hl0)
            simp only [Nat.zero_mul] at hcell
            have ha0 : a.add 0 = a := by simp [Addr.add]
            rw [ha0, ha0] at hcell
            unfold World.cell? at hcell
            split at hcell
            · rename_i c T fz hblk
              split at hcell
              · cases hcell
              · rename_i hspot
                obtain ⟨b, off, spot⟩ := a
                have hsp : spot = none := by cases spot <;> simp_all
                subst hsp
                refine ⟨b, off, c, T, fz, rfl, hblk, rows_of rows off hlens fun i r hr => ?_⟩
                have hci := cells_some (h2 i r hr).1
                apply List.ext_getElem?
                intro j
                rcases Nat.lt_or_ge j (Segs.cells r).length with hj | hj
                · have h3 := hci.2 j _ (List.getElem?_eq_getElem hj)
                  rw [Addr.add_lit, Addr.add_lit, cell_of_row hblk] at h3
                  rw [List.getElem?_take, List.getElem?_drop, if_pos (by rw [← hci.1]; exact hj), List.getElem?_eq_getElem hj, ← h3]
                  simp
                · rw [List.getElem?_eq_none hj, List.getElem?_eq_none]
                  simp only [List.length_take]
                  rw [hci.1] at hj
                  omega
            · cases hcell
          · obtain ⟨i, hi⟩ := List.getElem?_of_mem hr
            exact (h2 i r hi).2
      | struct fs =>
        obtain ⟨xs, m, hm, _, hlen, hxl, hget⟩ := DataW.trod_struct hu h
        cases hm
        obtain ⟨g1, g2, g3⟩ := laid_struct hl ht hu
        have hf : ∀ (i : Nat) (f : Field), fs[i]? = some f → ∃ R, Segs.cells R = (cs.drop f.offset).take (P.cellsOf f.type) ∧ Ty P (memOf w) n f.type R := by
          intro i f hi
          have h1 := hget i f hi
          have hlt := (Array.getElem?_eq_some_iff.1 hi).1
          obtain ⟨y, hy⟩ : ∃ y, xs[i]? = some y := ⟨xs[i], List.getElem?_eq_getElem (by omega)⟩
          rw [hy] at h1
          exact ih _ _ y (g3 f (by simpa using Array.mem_of_getElem? hi)) h1
        have hRs : ∃ Rs : List Segs, Rs.length = fs.size ∧ ∀ (i : Nat) (f : Field) (r : Segs), fs[i]? = some f → Rs[i]? = some r → Segs.cells r = (cs.drop f.offset).take (P.cellsOf f.type) ∧ Ty P (memOf w) n f.type r := by
          have key : ∀ k, k ≤ fs.size → ∃ Rs : List Segs, Rs.length = k ∧ ∀ (i : Nat) (f : Field) (r : Segs), fs[i]? = some f → Rs[i]? = some r → Segs.cells r = (cs.drop f.offset).take (P.cellsOf f.type) ∧ Ty P (memOf w) n f.type r := by
            intro k
            induction k with
            | zero => exact fun _ => ⟨[], rfl, by simp⟩
            | succ k ihk =>
              intro hk
              obtain ⟨Rs, h1, h2⟩ := ihk (by omega)
              obtain ⟨R, h3, h4⟩ := hf k fs[k] (Array.getElem?_eq_getElem hk)
              refine ⟨Rs ++ [R], by simp [h1], fun i f r hi hr => ?_⟩
              rcases Nat.lt_or_ge i Rs.length with h' | h'
              · rw [List.getElem?_append_left h'] at hr
                exact h2 i f r hi hr
              · rw [List.getElem?_append_right h'] at hr
                have hi0 : i - Rs.length = 0 := by
                  have := (List.getElem?_eq_some_iff.1 hr).1
                  simp at this; omega
                rw [hi0] at hr
                simp at hr
                subst hr
                have : i = k := by omega
                subst this
                rw [Array.getElem?_eq_getElem hk] at hi
                obtain rfl := Option.some.inj hi
                exact ⟨h3, h4⟩
          exact key fs.size (Nat.le_refl _)
        obtain ⟨Rs, h1, h2⟩ := hRs
        refine ⟨cat Rs, ?_, ?_⟩
        · rw [rowsCells_cat]
          have hsz : (cs.drop 0).length = (fs.toList.map fun f => P.cellsOf f.type).sum := by simp [hlen, g1]
          have h3 := fields_cat (cs := cs) (fs.toList.map fun f => P.cellsOf f.type) 0 hsz
          rw [List.drop_zero] at h3
          have h4 : rowsCells Rs = (Rs.map Segs.cells).flatten := by
            clear h1 h2
            induction Rs with
            | nil => rfl
            | cons r Rs ih => simp [rowsCells, ih]
          rw [h4]
          refine Eq.trans ?_ h3.symm
          congr 1
          apply List.ext_getElem?
          intro i
          rcases Nat.lt_or_ge i fs.size with hi | hi
          · have hR : Rs[i]? = some Rs[i] := List.getElem?_eq_getElem (by omega)
            have hF : fs[i]? = some fs[i] := Array.getElem?_eq_getElem hi
            have hFL : fs.toList[i]? = some fs[i] := by simpa using hF
            have h5 := (h2 i _ _ hF hR).1
            have h6 := g2 i _ hFL
            rw [List.getElem?_map, hR, Option.map_some, h5]
            rw [List.getElem?_map, List.getElem?_range (by simpa using hi), Option.map_some]
            rw [Nat.zero_add, ← List.map_take, ← h6]
            congr 2
            simp [List.getD, hi]
          · rw [List.getElem?_eq_none (by simp; omega), List.getElem?_eq_none (by simpa using hi)]
        · simp only [Ty, hu]
          exact ⟨Rs, rfl, h1, fun i f r hi hr => (h2 i f r hi hr).2⟩
      | array k el =>
        cases hue : P.underlying el with
        | none => exact any fun R => by simp [Ty, hu, hue]
        | some de =>
          cases de with
          | int q =>
            obtain ⟨xs, m, hm, _, hlen, hxl, hget⟩ := DataW.trod_array hu h
            cases hm
            by_cases h1 : P.cellsOf el = 1
            · have hck : cs.length = k := by
                have h2 : P.cellsOf t = k * P.cellsOf el := by
                  unfold laidOutB at hl
                  simp only [Bool.and_eq_true] at hl
                  have h3 := List.all_eq_true.1 hl.1.1 t (List.mem_range.2 ht)
                  unfold rowFine at h3
                  rw [hu] at h3
                  have hv : isVar P t = true := by simp [isVar, ht, hu, kindOk]
                  simp only [hv, Bool.not_true, Bool.false_or, Bool.and_eq_true, beq_iff_eq] at h3
                  exact h3.2
                rw [hlen, h2, h1, Nat.mul_one]
              refine ⟨[.arr k ⟨cs.toArray, by simpa using hck⟩], by simp [Segs.cells, Seg.cells, Vector.toList], ?_⟩
              simp only [Ty, hu, hue]
              refine fun _ => ⟨_, rfl, fun i hi => ?_⟩
              have h3 := hget i hi
              obtain ⟨y, hy⟩ : ∃ y, xs[i]? = some y := ⟨xs[i], List.getElem?_eq_getElem (by omega)⟩
              rw [hy, h1] at h3
              obtain ⟨z, hz, _, hw⟩ := DataW.trod_int hue h3
              refine ⟨z, ?_, hw⟩
              have h4 : ((cs.drop (i * 1)).take 1)[0]? = some (.int q z) := by rw [hz]; rfl
              rw [List.getElem?_take, if_pos (by omega), List.getElem?_drop] at h4
              simp only [Nat.mul_one, Nat.add_zero] at h4
              have h5 := (List.getElem?_eq_some_iff.1 h4).2
              simpa using h5
            · exact any fun R => by simp [Ty, hu, hue, h1]
          | _ => exact any fun R => by simp [Ty, hu, hue]
      | _ => exact any fun R => by simp [Ty, hu]

/-- The types that a law's arguments may have. -/
def dataT (P : Program) (t : TypeId) : Bool := match P.underlying t with
  | some .bool => true
  | some (.int _) => true
  | some .string => true
  | some (.slice _) => true
  | some (.struct _) => true
  | some (.array _ el) => match P.underlying el with
    | some (.int _) => P.cellsOf el == 1
    | _ => false
  | _ => false

theorem one_of {v x : Value} (h : v.cells.toList = [x]) (hv : ∀ cs, v ≠ .agg cs) : v = x := by
  cases v <;> simp [Value.cells] at h <;> first | exact h | exact (hv _ rfl).elim

/-- A value of a type, and its parts. -/
def Is (P : Program) (t : TypeId) (v : Value) (R : Segs) : Prop := match P.underlying t with
  | some (.struct _) => v = aggV R
  | some (.array _ _) => v = aggV R
  | _ => R = [.one v]

theorem parts_of {M : Mem} {base n : Nat} {t : TypeId} {v : Value} {R : Segs} (hd : dataT P t = true) (hok : Value.okWide P w .any base t v) (hT : Ty P M n t R) (hc : Segs.cells R = v.cells.toList) : Is P t v R := by
  cases n with
  | zero => exact hT.elim
  | succ n =>
    have hagg : (match P.underlying t with | some (.struct _) => True | some (.array _ _) => True | _ => False) → v = aggV R := by
      intro h
      have : ∃ cs, v = .agg cs := by
        unfold Value.okWide at hok
        split at h <;> rename_i hu
        · rw [hu] at hok; obtain ⟨cs, h1, _⟩ := hok; exact ⟨cs, h1⟩
        · rw [hu] at hok; obtain ⟨cs, h1, _⟩ := hok; exact ⟨cs, h1⟩
        · exact h.elim
      obtain ⟨cs, rfl⟩ := this
      unfold aggV; rw [hc]; simp [Value.cells]
    unfold Is
    unfold Ty at hT
    unfold dataT at hd
    unfold Value.okWide at hok
    cases hu : P.underlying t with
    | none => rw [hu] at hd; cases hd
    | some d =>
      rw [hu] at hT hd hok hagg
      have hna : (match d with | .struct _ => False | .array _ _ => False | _ => True) → ∀ cs, v ≠ .agg cs := by
        intro h cs e
        subst e
        cases d <;> simp only [Cell.okWide, Cell.ok, hu] at hok h
      cases d <;> simp only at hT hd hagg hna <;> try (cases hd; done)
      case bool =>
        obtain ⟨b, rfl⟩ := hT
        obtain rfl := one_of hc.symm (hna trivial)
        rfl
      case int k =>
        obtain ⟨z, rfl, _⟩ := hT
        obtain rfl := one_of hc.symm (hna trivial)
        rfl
      case string =>
        obtain ⟨s, rfl, _⟩ := hT
        obtain rfl := one_of hc.symm (hna trivial)
        rfl
      case slice el =>
        obtain ⟨a, rows, c, rfl, _⟩ := hT
        obtain rfl := one_of hc.symm (hna trivial)
        rfl
      case struct fs => exact hagg trivial
      case array k el => exact hagg trivial

/-- The arguments, one by one. -/
def ArgsTy (P : Program) (M : Mem) : List TypeId → List Value → Prop
  | [], [] => True
  | t :: ts, v :: vs => (∃ R n, Is P t v R ∧ Ty P M n t R) ∧ ArgsTy P M ts vs
  | _, _ => False

theorem args_open (hl : laidOutB P = true) {base : Nat} : ∀ (ts : List TypeId) (vs : List Value) (ds : List (DataW H)) (p : List MemPlace), DataW.TrodAll enc P w 0 sp true ts vs ds p →
    (∀ (j : Nat) t v, ts[j]? = some t → vs[j]? = some v → Value.okWide P w .any base t v) → (∀ t ∈ ts, t < P.types.size ∧ dataT P t = true) → ArgsTy P (memOf w) ts vs
  | [], [], _, _, _, _, _ => trivial
  | [], _ :: _, [], _, h, _, _ => h.elim
  | [], _ :: _, _ :: _, _, h, _, _ => h.elim
  | _ :: _, [], _, _, h, _, _ => h.elim
  | _ :: _, _ :: _, [], _, h, _, _ => h.elim
  | t :: ts, v :: vs, d :: ds, p, h, hval, ht => by
    obtain ⟨p1, p2, ⟨fuel, hf⟩, h2, _⟩ := h
    obtain ⟨h3, h4⟩ := ht t (.head _)
    obtain ⟨R, hR, hT⟩ := ty_of_trod hl fuel t v.cells.toList _ h3 hf
    exact ⟨⟨R, fuel, parts_of h4 (hval 0 t v rfl rfl) hT hR, hT⟩, args_open hl ts vs ds p2 h2 (fun j t' v' hj hv => hval (j + 1) t' v' (by simpa using hj) (by simpa using hv)) fun t' ht' => ht t' (.tail _ ht')⟩

theorem all_args {ts : List TypeId} (h : (ts.all fun t => Nat.blt t P.types.size && dataT P t) = true) : ∀ t ∈ ts, t < P.types.size ∧ dataT P t = true := fun t ht => by
  have := List.all_eq_true.1 h t ht
  simp only [Bool.and_eq_true] at this
  exact ⟨Nat.le_of_ble_eq_true this.1, this.2⟩

theorem all_read {ts : List TypeId} (h : (ts.all fun t => Nat.blt t P.types.size && P.readableRec t) = true) : ∀ t ∈ ts, t < P.types.size ∧ P.readableRec t = true := fun t ht => by
  have := List.all_eq_true.1 h t ht
  simp only [Bool.and_eq_true] at this
  exact ⟨Nat.le_of_ble_eq_true this.1, this.2⟩

/-! A type's parts, one kind by one. -/

theorem ty_int {M : Mem} {n : Nat} {t : TypeId} {k : IntKind} {R : Segs} (hu : P.underlying t = some (.int k)) (h : Ty P M n t R) : ∃ z, R = [.one (.int k z)] ∧ (Lit.int k z).wf = true := by
  cases n with
  | zero => exact h.elim
  | succ n => simp only [Ty, hu] at h; exact h

theorem ty_bool {M : Mem} {n : Nat} {t : TypeId} {R : Segs} (hu : P.underlying t = some .bool) (h : Ty P M n t R) : ∃ b, R = [.one (.bool b)] := by
  cases n with
  | zero => exact h.elim
  | succ n => simp only [Ty, hu] at h; exact h

theorem ty_str {M : Mem} {n : Nat} {t : TypeId} {R : Segs} (hu : P.underlying t = some .string) (h : Ty P M n t R) : ∃ s : ByteArray, R = [.one (.string s)] ∧ s.size ≤ maxLen := by
  cases n with
  | zero => exact h.elim
  | succ n => simp only [Ty, hu] at h; exact h

theorem ty_slice {M : Mem} {n : Nat} {t el : TypeId} {R : Segs} (hu : P.underlying t = some (.slice el)) (hc : 0 < P.cellsOf el) (h : Ty P M n t R) : ∃ a rows c m, R = [.one (.slice a rows.length c)] ∧ SlM M a rows (P.cellsOf el) ∧ rows.length ≤ maxLen ∧ ∀ r ∈ rows, Ty P M m el r := by
  cases n with
  | zero => exact h.elim
  | succ n =>
    simp only [Ty, hu] at h
    obtain ⟨a, rows, c, h1, h2, h3, h4, h5⟩ := h
    exact ⟨a, rows, c, n, h1, h2 hc, by omega, h5⟩

theorem ty_struct {M : Mem} {n : Nat} {t : TypeId} {fs : Array Field} {R : Segs} (hu : P.underlying t = some (.struct fs)) (h : Ty P M n t R) : ∃ m Rs, R = cat Rs ∧ Rs.length = fs.size ∧ ∀ (i : Nat) (f : Field) (r : Segs), fs[i]? = some f → Rs[i]? = some r → Ty P M m f.type r := by
  cases n with
  | zero => exact h.elim
  | succ n =>
    simp only [Ty, hu] at h
    obtain ⟨Rs, h1, h2, h3⟩ := h
    exact ⟨n, Rs, h1, h2, h3⟩

theorem one_inj {u v : Value} (h : ([.one u] : Segs) = [.one v]) : u = v := by simpa using h

theorem rows_map {α : Type} {f : α → Segs} : ∀ {rows : List Segs}, (∀ r ∈ rows, ∃ x, r = f x) → ∃ l : List α, rows = l.map f
  | [], _ => ⟨[], rfl⟩
  | r :: rows, h => by
    obtain ⟨x, hx⟩ := h r (.head _)
    obtain ⟨l, hl⟩ := rows_map (fun r hr => h r (.tail _ hr))
    exact ⟨x :: l, by simp [hx, hl]⟩

theorem args_same (hl : laidOutB P = true) {W W' : World} (hb : RowKit.Below W.heap.size W W') : ∀ (ts : List TypeId) (vs : List Value) (ds : List (DataW H)) (p : List MemPlace), (∀ t ∈ ts, t < P.types.size ∧ P.readableRec t = true) →
    DataW.TrodAll enc P W 0 (fun _ => true) true ts vs ds p → DataW.TrodAll enc P W' 0 (fun b => decide (b < W.heap.size)) true ts vs ds p
  | [], [], [], _, _, h => h
  | [], [], _ :: _, _, _, h => h.elim
  | [], _ :: _, [], _, _, h => h.elim
  | [], _ :: _, _ :: _, _, _, h => h.elim
  | _ :: _, [], _, _, _, h => h.elim
  | _ :: _, _ :: _, [], _, _, h => h.elim
  | t :: ts, v :: vs, d :: ds, p, hr, h => by
    have hlt := DataW.TrodAll.lt h
    obtain ⟨p1, p2, h1, h2, rfl⟩ := h
    obtain ⟨g1, g2⟩ := hr t (.head _)
    exact ⟨p1, p2, RowKit.Below.trod hl g2 g1 h1 hb (fun x hx => hlt x (List.mem_append_left _ hx)), args_same hl hb ts vs ds p2 (fun t' ht' => hr t' (.tail _ ht')) h2, rfl⟩

theorem trodAll_len : ∀ {ts : List TypeId} {vs : List Value} {ds : List (DataW H)} {b : Nat} {sp : Nat → Bool} {held : Bool} {p : List MemPlace}, DataW.TrodAll enc P w b sp held ts vs ds p → vs.length = ts.length ∧ ds.length = ts.length
  | [], [], [], _, _, _, _, _ => ⟨rfl, rfl⟩
  | [], [], _ :: _, _, _, _, _, h => h.elim
  | [], _ :: _, [], _, _, _, _, h => h.elim
  | [], _ :: _, _ :: _, _, _, _, _, h => h.elim
  | _ :: _, [], _, _, _, _, _, h => h.elim
  | _ :: _, _ :: _, [], _, _, _, _, h => h.elim
  | _ :: _, _ :: _, _ :: _, _, _, _, _, h => by
    obtain ⟨_, _, _, h2, _⟩ := h
    have := trodAll_len h2
    exact ⟨congrArg (· + 1) this.1, congrArg (· + 1) this.2⟩

theorem len1 {α : Type} {l : List α} (h : l.length = 1) : ∃ x0, l = [x0] := match l, h with | [x0], _ => ⟨x0, rfl⟩
theorem len2 {α : Type} {l : List α} (h : l.length = 2) : ∃ x0 x1, l = [x0, x1] := match l, h with | [x0, x1], _ => ⟨x0, x1, rfl⟩
theorem len3 {α : Type} {l : List α} (h : l.length = 3) : ∃ x0 x1 x2, l = [x0, x1, x2] := match l, h with | [x0, x1, x2], _ => ⟨x0, x1, x2, rfl⟩
theorem len4 {α : Type} {l : List α} (h : l.length = 4) : ∃ x0 x1 x2 x3, l = [x0, x1, x2, x3] := match l, h with | [x0, x1, x2, x3], _ => ⟨x0, x1, x2, x3, rfl⟩
theorem len5 {α : Type} {l : List α} (h : l.length = 5) : ∃ x0 x1 x2 x3 x4, l = [x0, x1, x2, x3, x4] := match l, h with | [x0, x1, x2, x3, x4], _ => ⟨x0, x1, x2, x3, x4, rfl⟩
theorem len6 {α : Type} {l : List α} (h : l.length = 6) : ∃ x0 x1 x2 x3 x4 x5, l = [x0, x1, x2, x3, x4, x5] := match l, h with | [x0, x1, x2, x3, x4, x5], _ => ⟨x0, x1, x2, x3, x4, x5, rfl⟩
theorem len7 {α : Type} {l : List α} (h : l.length = 7) : ∃ x0 x1 x2 x3 x4 x5 x6, l = [x0, x1, x2, x3, x4, x5, x6] := match l, h with | [x0, x1, x2, x3, x4, x5, x6], _ => ⟨x0, x1, x2, x3, x4, x5, x6, rfl⟩
theorem len8 {α : Type} {l : List α} (h : l.length = 8) : ∃ x0 x1 x2 x3 x4 x5 x6 x7, l = [x0, x1, x2, x3, x4, x5, x6, x7] := match l, h with | [x0, x1, x2, x3, x4, x5, x6, x7], _ => ⟨x0, x1, x2, x3, x4, x5, x6, x7, rfl⟩

/-- What is asked behind a law's call. -/
theorem law_post {s : ChangeSpec} {fn : Func} {W W' : World} {args : Array Value} {ds gs : List (DataW H)} {before : List MemPlace} {tb : TypeId} (hl : laidOutB P = true) (hW : DataW.Whole enc P fn.params.toList s.vars false W args.toList ds gs before)
    (hvars : s.vars = []) (hres : fn.resultTypes = #[tb]) (htb : P.underlying tb = some .bool) (hsr : (s.fn H (ds ++ gs)).results = [.lit (.bool true)]) (hsa : (s.fn H (ds ++ gs)).args = ds) (hsv : (s.fn H (ds ++ gs)).vars = [])
    (hread : ∀ t ∈ fn.params.toList, t < P.types.size ∧ P.readableRec t = true) (hb : RowKit.Below W.heap.size W W') : s.post enc P fn false true false false W args (.bool true) W' := by
  have hW0 := hW
  obtain ⟨p, q, hA, hV, hpq, hnf, hnd⟩ := hW
  have hq : gs = [] ∧ q = [] := by
    rw [hvars] at hV
    cases gs with
    | nil => exact ⟨rfl, hV⟩
    | cons g gs => exact hV.elim
  obtain ⟨rfl, rfl⟩ := hq
  refine ⟨ds, [], before, [], p, [], hW0, ?_, ?_, ?_, ?_, fun h => by cases h⟩
  · rw [hsr, hres]
    exact ⟨[], [], ⟨1, by simp [DataW.trod, htb, Value.cells]⟩, rfl, rfl⟩
  · rw [hsa]
    exact args_same hl hb _ _ _ _ hread hA
  · rw [hvars, hsv]; rfl
  · exact hb.frame _

theorem law_calls {s : ChangeSpec} {f : FuncId} {fn : Func} {W : World} {args : Array Value} {ds gs : List (DataW H)} {before : List MemPlace} {tb : TypeId} (hl : laidOutB P = true) (hW : DataW.Whole enc P fn.params.toList s.vars false W args.toList ds gs before)
    (hvars : s.vars = []) (hres : fn.resultTypes = #[tb]) (htb : P.underlying tb = some .bool) (hsr : (s.fn H (ds ++ gs)).results = [.lit (.bool true)]) (hsa : (s.fn H (ds ++ gs)).args = ds) (hsv : (s.fn H (ds ++ gs)).vars = [])
    (hread : ∀ t ∈ fn.params.toList, t < P.types.size ∧ P.readableRec t = true) (hc : Fn P f args.toList (memOf W) fun _ v => v = .bool true) :
    Calls P f args W fun e W' => ∃ v, e = .returned v ∧ s.post enc P fn false true false false W args v W' := by
  have := hc [] W (St.start W)
  rw [Array.toArray_toList] at this
  refine this.mono fun e W' ⟨v, M', he, hm, hst, hv⟩ => ⟨v, he, ?_⟩
  subst hv
  exact law_post hl hW hvars hres htb hsr hsa hsv hread (below_of hm hst)
end
end Go.Esp
