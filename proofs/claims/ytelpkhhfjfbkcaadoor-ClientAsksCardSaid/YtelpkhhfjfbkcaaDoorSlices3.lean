/-
  More rules for slices: append, pieces, and what turns from ours to never changing.
-/
import Derived.Test.YtelpkhhfjfbkcaaDoorSlices2
set_option linter.unusedSimpArgs false
set_option linter.unusedVariables false
set_option linter.unnecessarySimpa false
namespace Go.Esp
section
variable {P : Program} {n : Sh} {ops : Array Oper} {Q : Exit → Act → World → Prop} {rest : List Nat} {M M' : Mem} {H H' H0 : Hp} {e : Env} {J S : World → Prop} {A : As} {i : Nat}
  {dst : Option Tmp} {d : Tmp} {op : Op} {ty : TypeId} {pos : String} {af : Array Edge} {gd : Option (Nat × Bool)}

theorem dT {p : Prop} [Decidable p] (h : decide p = true) : p := of_decide_eq_true h
theorem dF {p : Prop} [Decidable p] (h : decide p = false) : ¬ p := of_decide_eq_false h
theorem nT {p : Prop} [Decidable p] (h : (!decide p) = true) : ¬ p := by simpa using h
theorem nF {p : Prop} [Decidable p] (h : (!decide p) = false) : p := by simpa using h

theorem row_map {α : Type} {l : List α} {f : α → Segs} {j : Nat} (h : j < l.length) : (l.map f)[j]? = some (f l[j]) := by simp [h]

/-- What is appended: elements that lie in memory of ours, or in memory that never changes. -/
def Src (M : Mem) (H : Hp) (sz : Nat) (v : Value) (news : List Segs) : Prop :=
  lens sz news ∧ (∀ u ∈ rowsCells news, u.oneCell' = true) ∧ ∃ a c, v = .slice (some a) news.length c ∧ ∀ w, St M H w → ∀ j u, (rowsCells news)[j]? = some u → w.cell? (a.add j) = some u

theorem Src.own {sz b k : Nat} {news : List Segs} {E : TypeId} (hl : lens sz news) (h1 : ∀ u ∈ rowsCells news, u.oneCell' = true) (hk : k = news.length) (hb : (b, .cells (rowsCells news).toArray E (0, 0)) ∈ H) : Src M H sz (.slice (some ⟨b, 0, none⟩) k k) news := by
  subst hk
  refine ⟨hl, h1, _, _, rfl, fun w hw => ?_⟩
  have := hw.own _ _ hb
  exact cellsAt this (n := (rowsCells news).length) (by simp)

theorem X_append {t E sz by_ m : Nat} {z : Value} {x y : Operand} {u v : Value} {hs : Hp} {rows news : List Segs} {ats : Array TypeId} (hi : ops[i]? = some ⟨some d, .call ⟨.builtin .append, #[x, y], ats⟩, ty, pos, af, gd⟩) (hg : want ops e gd = some true)
    (hx : ev e x = some v) (hy : ev e y = some u) (hat : ats = #[t, t]) (ht : slOf P t = some (E, sz, by_)) (hz : zeroOf P E = some z) (hzs : z.cells.size = sz) (hsz : Nat.ble 1 sz = true) (ho : OSl E sz v hs rows) (hH : Rem hs H H0)
    (hsrc : Src M H sz u news) (hm : rows.length + news.length ≤ m) (hbm : Nat.ble (m * (by_ + 1)) 140737488355328 = true) (hd : Nat.ble (d + 1) n.sz = true)
    (hk : ∀ v' hs', OSl E sz v' hs' (rows ++ news) → XD P n ops Q rest (St M (hs' ++ H0)) ⟨M, hs' ++ H0⟩ ((d, v') :: e)) (hnw : n.wrs.contains i = false := by rfl) : XD P n ops Q (i :: rest) J ⟨M, H⟩ e := by
  subst hat
  refine X_mut hi rfl hg (fun a w ha hw => ?_) hnw
  obtain ⟨hl, h1, ad, c, rfl, hsr⟩ := hsrc
  have hbm' := Nat.le_of_ble_eq_true hbm
  have h2 : m * (by_ + 1) = m * by_ + m := by rw [Nat.mul_add, Nat.mul_one]
  have h3 : (rows.length + news.length) * by_ ≤ m * by_ := Nat.mul_le_mul_right _ hm
  obtain ⟨v', w', hs', hr, ho', hst⟩ := run_append' ht hz hzs (Nat.le_of_ble_eq_true hsz) ho hl rfl (hsr w hw) h1 (by simp only [maxLen]; omega) (by omega) ty (hw.perm hH.perm)
  unfold Oper.does
  have : (execOp a.eval ⟨some d, .call ⟨.builtin .append, #[x, y], #[t, t]⟩, ty, pos, af, gd⟩).run P w = .ok (.value v') w' := by
    simp only [execOp, resolve]
    simp only [invoke, builtin]
    have e1 : #[x, y].map a.eval = #[v, .slice (some ad) news.length c] := by simp [ha.ev hx, ha.ev hy]
    rw [e1]
    rw [Sem.run_bind]
    show (Result.ok _ w).andThen _ = _
    rw [Result.andThen_ok]
    exact run_v hr
  rw [this]
  exact ⟨⟨M, hs' ++ H0⟩, _, hst, ha.put hd v', hk v' hs' ho'⟩

/-- A slice of ours is done: from now on it never changes. -/
theorem OSl.freeze {T sz : Nat} {v : Value} {hs : Hp} {rows : List Segs} (ho : OSl T sz v hs rows) {w : World} (hw : St M (hs ++ H) w) : ∃ M' a c, M.le M' ∧ St M' H w ∧ v = .slice a rows.length c ∧ SlM M' a rows sz := by
  cases ho with
  | nil => exact ⟨M, none, 0, Mem.le.refl M, hw, rfl, SlM.nil M none sz⟩
  | own b c _ cur h1 h2 h3 h4 h5 =>
    obtain ⟨g1, g2⟩ := St.freeze hw
    exact ⟨_, _, _, g1, g2, rfl, h1, fun _ => ⟨b, 0, cur, T, (0, 0), rfl, Mem.add_self M b _, by simpa using h5⟩⟩

end
end Go.Esp
