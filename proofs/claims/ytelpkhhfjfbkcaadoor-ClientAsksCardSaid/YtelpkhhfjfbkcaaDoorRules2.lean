/-
  More rules: fields of values, nil, equal structs, calls that leave our blocks as they are.
-/
import Derived.Test.YtelpkhhfjfbkcaaDoorRange
import Derived.DeepKeys
set_option linter.unusedSimpArgs false
set_option linter.unusedVariables false
set_option linter.unnecessarySimpa false
namespace Go.Esp

/-! What kinds of cells a type has, that may be compared cell by cell. -/

inductive Kd where
  | b | i (k : IntKind) | s

def Fit : Kd → Value → Prop
  | .b, .bool _ => True
  | .i k, .int k' _ => k' = k
  | .s, .string _ => True
  | _, _ => False

def Fits : List Kd → List Value → Prop
  | [], [] => True
  | k :: ks, v :: vs => Fit k v ∧ Fits ks vs
  | _, _ => False

theorem Fits.length : ∀ {ks : List Kd} {vs : List Value}, Fits ks vs → vs.length = ks.length
  | [], [], _ => rfl
  | _ :: _, _ :: _, h => by simp [Fits.length h.2]
  | [], _ :: _, h => h.elim
  | _ :: _, [], h => h.elim

theorem Fits.split : ∀ {as bs : List Kd} {vs : List Value}, Fits (as ++ bs) vs → Fits as (vs.take as.length) ∧ Fits bs (vs.drop as.length)
  | [], bs, vs, h => ⟨by simp [Fits], by simpa using h⟩
  | a :: as, bs, [], h => h.elim
  | a :: as, bs, v :: vs, h => ⟨⟨h.1, (Fits.split h.2).1⟩, (Fits.split h.2).2⟩

def kindsFields (P : Program) (K : TypeId → Option (List Kd)) : List Field → Nat → Option (List Kd)
  | [], _ => some []
  | f :: fs, off => match K f.type with
    | some ks => match f.name != "_" && Nat.beq f.offset off && Nat.beq (P.cellsOf f.type) ks.length, kindsFields P K fs (off + ks.length) with
      | true, some ls => some (ks ++ ls)
      | _, _ => none
    | none => none

def kindsOf (P : Program) : Nat → TypeId → Option (List Kd)
  | 0, _ => none
  | d + 1, t => match P.underlying t with
    | some .bool => some [.b]
    | some (.int k) => some [.i k]
    | some .string => some [.s]
    | some (.array n e) => match kindsOf P d e with
      | some ks => match Nat.beq (P.cellsOf e) ks.length with
        | true => some (List.replicate n ks).flatten
        | false => none
      | none => none
    | some (.struct fs) => match P.stoodInHeld t with
      | true => none
      | false => kindsFields P (kindsOf P d) fs.toList 0
    | _ => none

/-- The value of cells of a type. -/
def mkV (P : Program) (t : TypeId) (xs : List Value) : Value := match P.underlying t with
  | some (.struct _) => .agg xs.toArray
  | some (.array _ _) => .agg xs.toArray
  | _ => xs.headD undef

section
variable {P : Program}

theorem run_part_mk {w : World} {t : TypeId} {xs : Array Value} {off : Nat} {seg : List Value} {d : TypeDesc} (hu : P.underlying t = some d) (hs : (xs.toList.drop off).take (P.cellsOf t) = seg) (hl : seg.length = P.cellsOf t) (h1 : aggD d = false → P.cellsOf t = 1) :
    (part t xs off).run P w = .ok (mkV P t seg) w := by
  obtain ⟨i, hi⟩ := info_of_underlying hu
  unfold part
  rw [run_bind_ok (run_isAgg hu)]
  cases hd : aggD d with
  | true =>
    simp only [if_true]
    rw [run_bind_ok (run_sizeOf w hi)]
    have : mkV P t seg = .agg seg.toArray := by
      unfold mkV; rw [hu]
      cases d <;> simp [aggD] at hd <;> rfl
    rw [this]
    show Result.ok _ _ = _
    congr 2
    apply Array.ext'
    rw [← hs]
    simp [List.drop_take]
  | false =>
    simp only [Bool.false_eq_true, if_false]
    have h1' := h1 hd
    rw [h1'] at hs hl
    match seg, hl with
    | [v], _ =>
      have : xs[off]? = some v := by
        have := congrArg (·[0]?) hs
        simpa [List.getElem?_take] using this
      rw [this]
      have : mkV P t [v] = v := by
        unfold mkV; rw [hu]
        cases d <;> simp [aggD] at hd <;> rfl
      rw [this]; rfl

def EqK (P : Program) (dd : Nat) (t : TypeId) (ks : List Kd) : Prop :=
  ∀ (w : World) (xs ys : List Value), Fits ks xs → Fits ks ys → ∃ r : Bool, (Op.equalIn dd t (mkV P t xs) (mkV P t ys)).run P w = .ok r w ∧ (r = true ↔ xs = ys)

/-- A kind's type may be told apart: one cell, where it is no struct and no array. -/
theorem kinds_one {d : Nat} {t : TypeId} {ks : List Kd} {D : TypeDesc} (hk : kindsOf P d t = some ks) (hu : P.underlying t = some D) (hc : aggD D = false) : ks.length = 1 := by
  cases d with
  | zero => simp [kindsOf] at hk
  | succ d =>
    unfold kindsOf at hk
    rw [hu] at hk
    cases D <;> simp [aggD] at hc <;> simp at hk <;> subst hk <;> rfl

theorem kinds_under {d : Nat} {t : TypeId} {ks : List Kd} (hk : kindsOf P d t = some ks) : ∃ D, P.underlying t = some D := by
  cases d with
  | zero => simp [kindsOf] at hk
  | succ d =>
    unfold kindsOf at hk
    cases hu : P.underlying t with
    | none => rw [hu] at hk; cases hk
    | some D => exact ⟨D, rfl⟩

theorem run_eqFieldsK (dd m : Nat) (IH : ∀ t ks, kindsOf P m t = some ks → EqK P dd t ks) (xs ys : List Value) (w : World) : ∀ (fs : List Field) (off : Nat) (ks : List Kd), kindsFields P (kindsOf P m) fs off = some ks →
    Fits ks (xs.drop off) → Fits ks (ys.drop off) → ∃ r : Bool, (Op.eqFields dd xs.toArray ys.toArray fs).run P w = .ok r w ∧ (r = true ↔ xs.drop off = ys.drop off)
  | [], off, ks, hk, hx, hy => by
    obtain rfl := Option.some.inj hk
    have h1 : xs.drop off = [] := List.eq_nil_of_length_eq_zero hx.length
    have h2 : ys.drop off = [] := List.eq_nil_of_length_eq_zero hy.length
    exact ⟨true, by simp [Op.eqFields], by simp [h1, h2]⟩
  | f :: fs, off, ks, hk, hx, hy => by
    unfold kindsFields at hk
    split at hk
    · rename_i k1 hk1
      split at hk
      · rename_i ls hc hls
        obtain rfl := Option.some.inj hk
        simp only [Bool.and_eq_true, bne_iff_ne, ne_eq] at hc
        obtain ⟨⟨hn, ho⟩, hsz⟩ := hc
        have ho := Nat.eq_of_beq_eq_true ho
        have hsz := Nat.eq_of_beq_eq_true hsz
        obtain ⟨x1, x2⟩ := hx.split
        obtain ⟨y1, y2⟩ := hy.split
        rw [List.drop_drop] at x2 y2
        obtain ⟨D, hD⟩ := kinds_under hk1
        have one : aggD D = false → P.cellsOf f.type = 1 := fun h => by rw [hsz]; exact kinds_one hk1 hD h
        have p1 := run_part_mk (w := w) (xs := xs.toArray) (off := f.offset) hD (seg := (xs.drop off).take k1.length) (by rw [hsz, ho]) (by rw [x1.length, hsz]) one
        have p2 := run_part_mk (w := w) (xs := ys.toArray) (off := f.offset) hD (seg := (ys.drop off).take k1.length) (by rw [hsz, ho]) (by rw [y1.length, hsz]) one
        obtain ⟨r, p3, hiff⟩ := IH f.type k1 hk1 w _ _ x1 y1
        obtain ⟨r', hr', hiff'⟩ := run_eqFieldsK dd m IH xs ys w fs (off + k1.length) ls hls x2 y2
        simp only [Op.eqFields, hn, ne_eq, not_false_eq_true, if_true, Sem.run_bind, p1, p2, p3, Result.andThen_ok]
        have hsplit : xs.drop off = ys.drop off ↔ ((xs.drop off).take k1.length = (ys.drop off).take k1.length ∧ xs.drop (off + k1.length) = ys.drop (off + k1.length)) := by
          constructor
          · intro h; exact ⟨by rw [h], by rw [← List.drop_drop, h, List.drop_drop]⟩
          · rintro ⟨h1, h2⟩
            rw [← List.take_append_drop k1.length (xs.drop off), ← List.take_append_drop k1.length (ys.drop off), h1, List.drop_drop, List.drop_drop, h2]
        rw [hsplit]
        cases r
        · exact ⟨false, by simp, by simp; intro e; exact absurd (hiff.2 e) (by simp)⟩
        · refine ⟨r', by simpa using hr', ?_⟩
          rw [hiff']
          simp [hiff.1 rfl]
      · cases hk
    · cases hk

theorem run_eqItemsK (dd : Nat) {e : TypeId} {ks : List Kd} {D : TypeDesc} (hD : P.underlying e = some D) (one : aggD D = false → P.cellsOf e = 1) (hsz : P.cellsOf e = ks.length) (IH : EqK P dd e ks) (xs ys : List Value) (w : World) : ∀ (n i : Nat),
    Fits (List.replicate n ks).flatten (xs.drop (i * ks.length)) → Fits (List.replicate n ks).flatten (ys.drop (i * ks.length)) →
    ∃ r : Bool, (Op.eqItems dd e (P.cellsOf e) xs.toArray ys.toArray (List.range' i n)).run P w = .ok r w ∧ (r = true ↔ xs.drop (i * ks.length) = ys.drop (i * ks.length))
  | 0, i, hx, hy => by
    have h1 : xs.drop (i * ks.length) = [] := List.eq_nil_of_length_eq_zero hx.length
    have h2 : ys.drop (i * ks.length) = [] := List.eq_nil_of_length_eq_zero hy.length
    exact ⟨true, by simp [Op.eqItems], by simp [h1, h2]⟩
  | n + 1, i, hx, hy => by
    rw [List.replicate_succ, List.flatten_cons] at hx hy
    obtain ⟨x1, x2⟩ := hx.split
    obtain ⟨y1, y2⟩ := hy.split
    rw [List.drop_drop, show i * ks.length + ks.length = (i + 1) * ks.length by rw [Nat.add_mul, Nat.one_mul]] at x2 y2
    have p1 := run_part_mk (w := w) (xs := xs.toArray) (off := i * P.cellsOf e) hD (seg := (xs.drop (i * ks.length)).take ks.length) (by rw [hsz]) (by rw [x1.length, hsz]) one
    have p2 := run_part_mk (w := w) (xs := ys.toArray) (off := i * P.cellsOf e) hD (seg := (ys.drop (i * ks.length)).take ks.length) (by rw [hsz]) (by rw [y1.length, hsz]) one
    obtain ⟨r, p3, hiff⟩ := IH w _ _ x1 y1
    obtain ⟨r', hr', hiff'⟩ := run_eqItemsK dd hD one hsz IH xs ys w n (i + 1) x2 y2
    rw [List.range'_succ]
    simp only [Op.eqItems, Sem.run_bind, p1, p2, p3, Result.andThen_ok]
    have hsplit : xs.drop (i * ks.length) = ys.drop (i * ks.length) ↔ ((xs.drop (i * ks.length)).take ks.length = (ys.drop (i * ks.length)).take ks.length ∧ xs.drop ((i + 1) * ks.length) = ys.drop ((i + 1) * ks.length)) := by
      rw [show (i + 1) * ks.length = i * ks.length + ks.length by rw [Nat.add_mul, Nat.one_mul]]
      constructor
      · intro h; exact ⟨by rw [h], by rw [← List.drop_drop, h, List.drop_drop]⟩
      · rintro ⟨h1, h2⟩
        rw [← List.take_append_drop ks.length (xs.drop (i * ks.length)), ← List.take_append_drop ks.length (ys.drop (i * ks.length)), h1, List.drop_drop, List.drop_drop, h2]
    rw [hsplit]
    cases r
    · exact ⟨false, by simp, by simp; intro e; exact absurd (hiff.2 e) (by simp)⟩
    · refine ⟨r', by simpa using hr', ?_⟩
      rw [hiff']
      simp [hiff.1 rfl]

theorem run_equalK (d : Nat) : ∀ (m : Nat) (t : TypeId) (ks : List Kd), kindsOf P m t = some ks → EqK P (d + m) t ks
  | 0, _, _, h => by simp [kindsOf] at h
  | m + 1, t, ks, h => by
    intro w xs ys hx hy
    unfold kindsOf at h
    have IH := run_equalK d m
    rw [show d + (m + 1) = (d + m) + 1 from rfl]
    cases hu : P.underlying t with
    | none => rw [hu] at h; cases h
    | some D =>
      rw [hu] at h
      cases D <;> simp only [] at h <;> try (cases h; done)
      case bool =>
        obtain rfl := Option.some.inj h
        match xs, ys, hx, hy with
        | [.bool a], [.bool b], _, _ => exact ⟨a == b, by simp [mkV, hu, run_equalIn_bool w _ _ _ _ hu], by simp⟩
      case int k =>
        obtain rfl := Option.some.inj h
        match xs, ys, hx, hy with
        | [.int k1 a], [.int k2 b], h1, h2 =>
          obtain rfl : k1 = k := h1.1
          obtain rfl : k2 = k1 := h2.1
          exact ⟨a == b, by simp [mkV, hu, run_equalIn_int w _ _ _ _ _ _ hu], by simp⟩
      case string =>
        obtain rfl := Option.some.inj h
        match xs, ys, hx, hy with
        | [.string a], [.string b], _, _ => exact ⟨a.toList == b.toList, by simp [mkV, hu, run_equalIn_string w _ _ _ _ hu], by rw [beq_toList]; simp⟩
      case array n e =>
        split at h
        · rename_i ke hke
          split at h
          · rename_i hb
            obtain rfl := Option.some.inj h
            have hsz := Nat.eq_of_beq_eq_true hb
            obtain ⟨D, hD⟩ := kinds_under hke
            obtain ⟨i, hi⟩ := info_of_underlying hD
            have one : aggD D = false → P.cellsOf e = 1 := fun h => by rw [hsz]; exact kinds_one hke hD h
            obtain ⟨r, hr, hiff⟩ := run_eqItemsK (d + m) hD one hsz (IH e ke hke) xs ys w n 0 (by simpa using hx) (by simpa using hy)
            refine ⟨r, ?_, by simpa using hiff⟩
            have e1 : mkV P t xs = .agg xs.toArray := by simp [mkV, hu]
            have e2 : mkV P t ys = .agg ys.toArray := by simp [mkV, hu]
            rw [e1, e2, run_equalIn_array w (d + m) _ _ hu hi, List.range_eq_range']
            exact hr
          · cases h
        · cases h
      case struct fs =>
        split at h
        · cases h
        · rename_i hst
          obtain ⟨r, hr, hiff⟩ := run_eqFieldsK (d + m) m IH xs ys w fs.toList 0 ks h (by simpa using hx) (by simpa using hy)
          refine ⟨r, ?_, by simpa using hiff⟩
          have e1 : mkV P t xs = .agg xs.toArray := by simp [mkV, hu]
          have e2 : mkV P t ys = .agg ys.toArray := by simp [mkV, hu]
          have hfs : P.fieldsOf t = fs := by simp [Program.fieldsOf, hu]
          rw [e1, e2, run_equalIn_struct w (d + m) t _ _ (by rw [hfs]; exact hu) (by simpa using hst), hfs]
          exact hr

end

section
variable {P : Program} {n : Sh} {ops : Array Oper} {Q : Exit → Act → World → Prop} {rest : List Nat} {M M' : Mem} {H H' H0 : Hp} {e : Env} {J S : World → Prop} {A : As} {i : Nat}
  {dst : Option Tmp} {d : Tmp} {op : Op} {ty : TypeId} {pos : String} {af : Array Edge} {gd : Option (Nat × Bool)}

def isEq : BinOp → Bool
  | .eql => true
  | .neq => true
  | _ => false

def eqX : BinOp → Bool → Bool
  | .neq, c => !c
  | _, c => c

def eqP : BinOp → Prop → Prop
  | .neq, p => ¬ p
  | _, p => p

theorem isEq_or {o : BinOp} (h : isEq o = true) : o = .eql ∨ o = .neq := by cases o <;> simp [isEq] at h <;> simp

theorem read_all {o : BinOp} {t t' : TypeId} {x y : Operand} {v : Value} (ho : o = .eql ∨ o = .neq) (hi : ops[i]? = some ⟨some d, .binOp o t x y t', ty, pos, af, gd⟩) (hg : want ops e gd = some true)
    (hr : ∀ a' w, Sat n e a' → (do eqGuard o t x y (a'.eval x) (a'.eval y); binOp o t (a'.eval x) (a'.eval y) : Sem Value).run P w = .ok v w) (hd : Nat.ble (d + 1) n.sz = true)
    (hk : XD P n ops Q rest J A ((d, v) :: e)) : XD P n ops Q (i :: rest) J A e := by
  have hcl : clOf P (.binOp o t x y t') = .read := by rcases ho with rfl | rfl <;> rfl
  refine X_read hi hcl hg (fun a w ha _ => runs_of ?_) (fun a ha => ha.put hd _) hk
  simp only [execOp]
  exact run_v (hr a w ha)

/-- Two structs, or two arrays, of plain cells. -/
theorem X_same {o : BinOp} {t t' : TypeId} {x y : Operand} {R1 R2 : Segs} {m : Nat} {ks : List Kd} {u v : Value} {sz : Nat} (hi : ops[i]? = some ⟨some d, .binOp o t x y t', ty, pos, af, gd⟩) (hg : want ops e gd = some true)
    (ho : isEq o = true) (hx : ev e x = some u) (hy : ev e y = some v) (hu : Parts u R1) (hv : Parts v R2) (hl : lay P t = some (true, sz)) (hks : kindsOf P m t = some ks) (hm : Nat.ble m 10000 = true) (hgt : P.eqGuardType P.depth t = false) (h1 : Fits ks (Segs.cells R1)) (h2 : Fits ks (Segs.cells R2)) (hau : u = aggV R1) (hav : v = aggV R2)
    (hd : Nat.ble (d + 1) n.sz = true)
    (hk' : ∀ c : Bool, (c = true ↔ eqP o (Segs.cells R1 = Segs.cells R2)) → XD P n ops Q rest J A ((d, .bool c) :: e)) : XD P n ops Q (i :: rest) J A e := by
  have hk : ∀ c : Bool, (c = true ↔ Segs.cells R1 = Segs.cells R2) → XD P n ops Q rest J A ((d, .bool (eqX o c)) :: e) := by
    intro c hc
    refine hk' _ ?_
    cases o <;> simp [isEq] at ho <;> cases c <;> simp_all [eqX, eqP]
  subst hau; subst hav
  have ho' := isEq_or ho
  have hm' := Nat.le_of_ble_eq_true hm
  obtain ⟨dd, it, hud, _, _, hag⟩ := lay_spec hl
  have mk1 : ∀ R, mkV P t (Segs.cells R) = aggV R := fun R => by
    unfold mkV; rw [hud]
    cases dd <;> simp [aggD] at hag <;> rfl
  have key : ∀ w : World, ∃ r : Bool, (Op.equal t (aggV R1) (aggV R2)).run P w = .ok r w ∧ (r = true ↔ Segs.cells R1 = Segs.cells R2) := by
    intro w
    obtain ⟨r, hr, hiff⟩ := run_equalK (10000 - m) m t ks hks w _ _ h1 h2
    rw [mk1, mk1, show 10000 - m + m = 10000 by omega] at hr
    exact ⟨r, hr, hiff⟩
  obtain ⟨c, hc⟩ : ∃ c : Bool, (c = true ↔ Segs.cells R1 = Segs.cells R2) := by
    by_cases h : Segs.cells R1 = Segs.cells R2
    · exact ⟨true, by simp [h]⟩
    · exact ⟨false, by simp [h]⟩
  refine read_all ho' hi hg (fun a w ha => ?_) hd (hk c hc)
  rw [ha.ev hx, ha.ev hy]
  have hgd : (eqGuard o t x y (aggV R1) (aggV R2)).run P w = .ok () w := by
    unfold eqGuard aggV
    have hp : (program : Sem Program).run P w = .ok P w := rfl
    rcases ho' with rfl | rfl <;> simp [hp, hgt, Sem.run_bind]
  rw [run_bind_ok hgd]
  obtain ⟨r, hr, hiff⟩ := key w
  have hrc : r = c := by cases r <;> cases c <;> simp_all
  subst hrc
  rcases ho' with rfl | rfl
  · show (do pure (.bool (← Op.equal t (aggV R1) (aggV R2))) : Sem Value).run P w = _
    rw [run_bind_ok hr]; rfl
  · show (do pure (.bool (!(← Op.equal t (aggV R1) (aggV R2)))) : Sem Value).run P w = _
    rw [run_bind_ok hr]; rfl

/-- Is a value of a type nil? -/
def nilOf : TypeDesc → Value → Option (Bool × Value)
  | .pointer _, .pointer p => some (p.isNone, .pointer none)
  | .slice _, .slice a _ _ => some (a.isNone, .slice none 0 0)
  | .map _ _, .map r => some (r.isNone, .map none)
  | .func _ _ _, .nilFunc => some (true, .nilFunc)
  | .func _ _ _, .func _ _ _ => some (false, .nilFunc)
  | .interface _, .nilIface => some (true, .nilIface)
  | .interface _, .iface _ _ => some (false, .nilIface)
  | _, _ => none

theorem X_nil {o : BinOp} {t t' : TypeId} {x : Operand} {v z : Value} {D : TypeDesc} {c : Bool} (hi : ops[i]? = some ⟨some d, .binOp o t x (.const z) t', ty, pos, af, gd⟩) (hg : want ops e gd = some true)
    (ho : isEq o = true) (hx : ev e x = some v) (hu : P.underlying t = some D) (hn : nilOf D v = some (c, z)) (hd : Nat.ble (d + 1) n.sz = true)
    (hk : XD P n ops Q rest J A ((d, .bool (eqX o c)) :: e)) : XD P n ops Q (i :: rest) J A e := by
  have ho' := isEq_or ho
  refine read_all ho' hi hg (fun a w ha => ?_) hd hk
  rw [ha.ev hx]
  show (do eqGuard o t x (.const z) v z; binOp o t v z : Sem Value).run P w = _
  have key : (Op.equal t v z).run P w = .ok c w := by
    unfold nilOf at hn
    show (Op.equalIn (9999 + 1) t v z).run P w = _
    unfold Op.equalIn
    rw [run_bind_ok (run_underlying' hu)]
    split at hn <;> first
      | (cases hn; done)
      | (simp only [Option.some.injEq, Prod.mk.injEq] at hn; obtain ⟨rfl, rfl⟩ := hn; first | rfl | (rename_i p; cases p <;> rfl) | (rename_i p _ _; cases p <;> rfl))
  have hgd : (eqGuard o t x (.const z) v z).run P w = .ok () w := by
    unfold nilOf at hn
    unfold eqGuard
    rcases ho' with rfl | rfl <;> split at hn <;> simp at hn <;> obtain ⟨rfl, rfl⟩ := hn <;> simp
  rw [run_bind_ok hgd]
  have hb : binOp o t v z = (match o with | .neq => do pure (.bool (!(← Op.equal t v z))) | _ => do pure (.bool (← Op.equal t v z)) : Sem Value) := by
    unfold nilOf at hn
    rcases ho' with rfl | rfl <;> split at hn <;> simp at hn <;> obtain ⟨rfl, rfl⟩ := hn <;> rfl
  rw [hb]
  rcases ho' with rfl | rfl
  · simp only []; rw [run_bind_ok key]; rfl
  · simp only []; rw [run_bind_ok key]; rfl

theorem X_eqb {o : BinOp} {t t' : TypeId} {x y : Operand} {a b : Bool} (hi : ops[i]? = some ⟨some d, .binOp o t x y t', ty, pos, af, gd⟩) (hg : want ops e gd = some true)
    (ho : isEq o = true) (hx : ev e x = some (.bool a)) (hy : ev e y = some (.bool b)) (hu : P.underlying t = some .bool) (hd : Nat.ble (d + 1) n.sz = true)
    (hk : XD P n ops Q rest J A ((d, .bool (eqX o (a == b))) :: e)) : XD P n ops Q (i :: rest) J A e := by
  have ho' := isEq_or ho
  refine read_all ho' hi hg (fun a' w ha => ?_) hd hk
  rw [ha.ev hx, ha.ev hy]
  have key : (Op.equal t (.bool a) (.bool b)).run P w = .ok (a == b) w := run_equalIn_bool w 9999 t a b hu
  rcases ho' with rfl | rfl
  · show (do eqGuard .eql t x y (.bool a) (.bool b); (do pure (.bool (← Op.equal t (.bool a) (.bool b))) : Sem Value) : Sem Value).run P w = _
    rw [run_bind_ok (show (eqGuard .eql t x y (.bool a) (.bool b)).run P w = .ok () w by simp [eqGuard])]
    rw [run_bind_ok key]; rfl
  · show (do eqGuard .neq t x y (.bool a) (.bool b); (do pure (.bool (!(← Op.equal t (.bool a) (.bool b)))) : Sem Value) : Sem Value).run P w = _
    rw [run_bind_ok (show (eqGuard .neq t x y (.bool a) (.bool b)).run P w = .ok () w by simp [eqGuard])]
    rw [run_bind_ok key]; rfl

/-- A field's place and its type's cells. -/
def fld (P : Program) (s : TypeId) (f : Nat) : Option (Nat × TypeId) := match P.underlying s with
  | some (.struct fs) => match fs[f]? with
    | some fd => some (fd.offset, fd.type)
    | none => none
  | _ => none

/-- A field of a struct's value. -/
theorem X_field {s T : TypeId} {x : Operand} {f off m : Nat} {agg : Bool} {r r' : Segs} {v : Value} (hi : ops[i]? = some ⟨some d, .field s x f, ty, pos, af, gd⟩) (hg : want ops e gd = some true) (hx : ev e x = some (aggV r))
    (hf : fld P s f = some (off, T)) (hl : lay P T = some (agg, m)) (hs : Segs.sub r off m = some r') (hv : readAs agg r' = some v) (hd : Nat.ble (d + 1) n.sz = true)
    (hk : XD P n ops Q rest J A ((d, v) :: e)) : XD P n ops Q (i :: rest) J A e :=
  X_pure hi rfl hg (fun a' w ha => runs_of (by
    simp only [execOp, ha.ev hx]
    refine run_v ?_
    obtain ⟨D, it, hD, hit, hsz, hag⟩ := lay_spec hl
    obtain ⟨h1, h2⟩ := Segs.sub_cells hs
    obtain ⟨_, _, _, _, h3⟩ := Segs.sub_spec hs
    unfold fld at hf
    split at hf
    · rename_i fs hfs
      split at hf
      · rename_i fd hfd
        simp only [Option.some.injEq, Prod.mk.injEq] at hf
        obtain ⟨rfl, rfl⟩ := hf
        have hc : P.cellsOf fd.type = m := by simp [Program.cellsOf, hit, hsz]
        have hlen : (Segs.cells r').length = m := by rw [Segs.cells_length, h3]
        have hp := run_part_mk (w := w) (xs := (Segs.cells r).toArray) (off := fd.offset) hD (seg := Segs.cells r') (by rw [hc]; exact h1) (by rw [hlen, hc]) (fun hh => by
          rw [hag] at hh
          subst hh
          unfold readAs at hv
          split at hv
          · rename_i e1 _; first | (cases e1; done) | (rename_i e1; cases e1; done) | simp_all
          · rw [hc, ← hlen]; rfl
          · cases hv)
        have hmk : mkV P fd.type (Segs.cells r') = v := by
          unfold mkV
          rw [hD]
          unfold readAs at hv
          split at hv
          · obtain rfl := Option.some.inj hv
            cases D <;> simp [aggD] at hag <;> rfl
          · obtain rfl := Option.some.inj hv
            cases D <;> simp [aggD] at hag <;> rfl
          · cases hv
        unfold Instr.field
        rw [run_bind_ok (run_underlying' hfs)]
        simp only [aggV, hfd]
        rw [hmk] at hp
        exact hp
      · cases hf
    · cases hf)) (fun a ha => ha.put hd _) hk

/-! Calls that read our blocks. -/

/-- A function that reads blocks of ours, and leaves them as they are. -/
def Fo (P : Program) (f : FuncId) (vs : List Value) (M : Mem) (Hin : Hp) (R : Mem → Value → Prop) : Prop :=
  ∀ H w, St M (Hin ++ H) w → Calls P f vs.toArray w fun e w' => ∃ v M', e = .returned v ∧ M.le M' ∧ St M' (Hin ++ H) w' ∧ R M' v

theorem Fs.fo {f : FuncId} {vs : List Value} {R : Value → Prop} (h : Fs P f vs M R) (Hin : Hp) : Fo P f vs M Hin (fun _ v => R v) := fun H w hw =>
  (h (Hin ++ H) w hw).mono fun e w' ⟨v, he, hs, hr⟩ => ⟨v, M, he, Mem.le.refl M, hs, hr⟩

theorem Fn.fo {f : FuncId} {vs : List Value} {R : Mem → Value → Prop} (h : Fn P f vs M R) (Hin : Hp) : Fo P f vs M Hin R := fun H w hw => h (Hin ++ H) w hw

theorem Fo.fh {f : FuncId} {vs : List Value} {Hin : Hp} {R : Mem → Value → Prop} (h : Fo P f vs M Hin R) : Fh P f vs M Hin (fun M' v Hout => Hout = Hin ∧ R M' v) := fun H w hw =>
  (h H w hw).mono fun e w' ⟨v, M', he, hm, hs, hr⟩ => ⟨v, M', Hin, he, hm, hs, rfl, hr⟩

theorem X_fo {f : FuncId} {xs : List Operand} {ats : Array TypeId} {vs : List Value} {Hin Hr : Hp} {R : Mem → Value → Prop} (hi : ops[i]? = some ⟨dst, .call ⟨.value (.func f), xs.toArray, ats⟩, ty, pos, af, gd⟩) (hg : want ops e gd = some true)
    (hf : okFn P f = true) (hx : evs e xs = some vs) (hc : Fo P f vs M Hin R) (hH : Rem Hin H Hr) (hd : ∀ a v, Sat n e a → Sat n (putE dst v e) (a.put dst v))
    (hk : ∀ v M', M.le M' → R M' v → XD P n ops Q rest J ⟨M', H⟩ (putE dst v e)) : XD P n ops Q (i :: rest) J ⟨M, H⟩ e := by
  obtain ⟨fn, h1, h2, h3⟩ := okFn_spec hf
  refine X_eff hi rfl hg (fun a F w ha hw => does_call h1 h2 h3 (by simpa using ha.evs hx) ?_)
  exact (hc (F ++ Hr) w (hw.perm0 ((hH.perm.append_left F).trans (swapF F Hin Hr)))).mono fun e' w' ⟨v, M', he, hm, hs, hr⟩ => ⟨v, he, ⟨M', H⟩, _, hs.perm0 ((hH.perm.append_left F).trans (swapF F Hin Hr)).symm, fun _ h => St.lower h hm, hd a v ha, hk v M' hm hr⟩

theorem fo_enter {f : FuncId} {fn : Func} {c : Code} {vs : List Value} {Hin : Hp} {R : Mem → Value → Prop} {m : Nat} (hf : P.funcs[f]? = some fn) (hb : fn.body = some c) (hm : fn.ntmps = m) (hle : Nat.ble vs.length m = true)
    (h : ∀ H, C P ⟨m, [], none, []⟩ c (bodyPost P fn fun e w' => ∃ v M', e = .returned v ∧ M.le M' ∧ St M' (Hin ++ H) w' ∧ R M' v) (St M (Hin ++ H)) (args0 0 vs)) : Fo P f vs M Hin R :=
  fun H _ hw => enter (S := St M (Hin ++ H)) hf hb hm hle hw (h H)

theorem foM_enter {f : FuncId} {fn : Func} {c : Code} {vs : List Value} {Hin : Hp} {R : Mem → Value → Prop} {m : Nat} (hf : P.funcs[f]? = some fn) (hb : fn.body = some c) (hm : fn.ntmps = m) (hle : Nat.ble vs.length m = true)
    (h : ∀ H, C P ⟨m, [], none, []⟩ c (bodyPostM (Fr none) 0 P fn fun e w' => ∃ v M', e = .returned v ∧ M.le M' ∧ St M' (Hin ++ H) w' ∧ R M' v) (St M (Hin ++ H)) (args0 0 vs)) : Fo P f vs M Hin R :=
  fun H _ hw => enterM (S := St M (Hin ++ H)) hf hb hm hle hw (h H)

theorem putE_some {d : Tmp} (hd : Nat.ble (d + 1) n.sz = true) : ∀ a v, Sat n e a → Sat n (putE (some d) v e) (a.put (some d) v) := fun _ v ha => ha.put hd v
theorem putE_none : ∀ a v, Sat n e a → Sat n (putE none v e) (a.put none v) := fun _ v ha => ha.none v
end
end Go.Esp
