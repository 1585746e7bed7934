/-
  Slices that may be read, wherever they lie.
-/
import Derived.Test.YtelpkhhfjfbkcaaDoorRules3
set_option linter.unusedSimpArgs false
set_option linter.unusedVariables false
set_option linter.unnecessarySimpa false
namespace Go.Esp

theorem Rem.two {A B H : Hp} : Rem (A ++ B) (A ++ (B ++ H)) H := by
  rw [← List.append_assoc]; exact Rem.here H

/-- A slice that may be read. -/
structure RdS (M : Mem) (H : Hp) (a : Option Addr) (rows : List Segs) (sz : Nat) : Prop where
  lens : Esp.lens sz rows
  there : rows ≠ [] → ∃ b off, a = some ⟨b, off, none⟩ ∧ ∀ w, St M H w → ∃ c T fz, w.heap[b]? = some (.cells c T fz) ∧ (c.toList.drop off).take (rows.length * sz) = rowsCells rows

theorem SlM.rd {M : Mem} {a : Option Addr} {rows : List Segs} {sz : Nat} (h : SlM M a rows sz) (H : Hp) : RdS M H a rows sz :=
  ⟨h.lens, fun hn => let ⟨b, off, c, T, fz, h1, h2, h3⟩ := h.there hn; ⟨b, off, h1, fun w hw => ⟨c, T, fz, hw.mem b _ h2, h3⟩⟩⟩

theorem RdS.app {M : Mem} {H : Hp} {a : Option Addr} {rows : List Segs} {sz : Nat} (h : RdS M H a rows sz) (H' : Hp) : RdS M (H ++ H') a rows sz :=
  ⟨h.lens, fun hn => let ⟨b, off, h1, h2⟩ := h.there hn; ⟨b, off, h1, fun w hw => h2 w (hw.cnt (fun x => by rw [cnt_app]; omega))⟩⟩

theorem RdS.cnt {M : Mem} {H H' : Hp} {a : Option Addr} {rows : List Segs} {sz : Nat} (h : RdS M H a rows sz) (hc : ∀ x, Esp.cnt x H ≤ Esp.cnt x H') : RdS M H' a rows sz :=
  ⟨h.lens, fun hn => let ⟨b, off, h1, h2⟩ := h.there hn; ⟨b, off, h1, fun w hw => h2 w (hw.cnt hc)⟩⟩

theorem RdS.mono {M M' : Mem} {H : Hp} {a : Option Addr} {rows : List Segs} {sz : Nat} (h : RdS M H a rows sz) (hm : M.le M') : RdS M' H a rows sz :=
  ⟨h.lens, fun hn => let ⟨b, off, h1, h2⟩ := h.there hn; ⟨b, off, h1, fun w hw => h2 w (hw.lower hm)⟩⟩

theorem OSl.rd {T sz l c : Nat} {a : Option Addr} {hs : Hp} {rows : List Segs} (h : OSl T sz (.slice a l c) hs rows) (M : Mem) : RdS M hs a rows sz := by
  refine ⟨h.lens, fun hn => ?_⟩
  obtain ⟨b, rfl⟩ := h.addr (List.length_pos_iff.2 hn)
  obtain ⟨cur, rfl, _, h1, h2, h3, h4, h5⟩ := h.inv
  exact ⟨b, 0, rfl, fun w hw => ⟨cur, T, (0, 0), hw.own b _ (.head _), by simpa using h5⟩⟩

theorem RdS.plain {M : Mem} {H : Hp} {a : Option Addr} {rows : List Segs} {sz : Nat} (h : RdS M H a rows sz) (hn : 0 < rows.length) : Plain a := by
  obtain ⟨b, off, h1, _⟩ := h.there (List.length_pos_iff.1 hn)
  exact ⟨b, off, h1⟩

section
variable {P : Program} {n : Sh} {ops : Array Oper} {Q : Exit → Act → World → Prop} {rest : List Nat} {M M' : Mem} {H H' H0 : Hp} {e : Env} {J S : World → Prop} {A : As} {i : Nat}
  {dst : Option Tmp} {d : Tmp} {op : Op} {ty : TypeId} {pos : String} {af : Array Edge} {gd : Option (Nat × Bool)}

theorem X_load_rd {t : TypeId} {x : Operand} {j sz off m : Nat} {a : Option Addr} {agg : Bool} {rows : List Segs} {r r' : Segs} {v : Value} {MJ : Mem} {HJ : Hp} (hi : ops[i]? = some ⟨some d, .load t x, ty, pos, af, gd⟩) (hg : want ops e gd = some true)
    (hx : ev e x = some (eptr a j sz off)) (hsl : RdS MJ HJ a rows sz) (hr : rows[j]? = some r) (hl : lay P t = some (agg, m)) (hs : Segs.sub r off m = some r') (hv : readAs agg r' = some v)
    (hd : Nat.ble (d + 1) n.sz = true) (hk : XD P n ops Q rest (St MJ HJ) A ((d, v) :: e)) : XD P n ops Q (i :: rest) (St MJ HJ) A e :=
  X_read hi rfl hg (fun a' w ha hw => runs_of (by
    simp only [execOp, ha.ev hx]
    have hlt := (List.getElem?_eq_some_iff.1 hr).1
    obtain ⟨b, o, rfl, h2⟩ := hsl.there (fun e => by rw [e] at hlt; cases hlt)
    obtain ⟨c, T, fz, h3, h4⟩ := h2 w hw
    rw [eptr_some]
    obtain ⟨h5, h6⟩ := Segs.sub_cells hs
    obtain ⟨_, _, _, _, h7⟩ := Segs.sub_spec hs
    refine run_v (run_loadAt' h3 hl ?_ h7 hv)
    have hlr := hsl.lens r (List.mem_of_getElem? hr)
    rw [← h5, ← rowsCells_at hsl.lens hr, ← h4]
    simp only [List.drop_take, List.take_take, List.drop_drop]
    rw [show o + (j * sz + off) = o + (j * sz + off) by rfl, show o + j * sz + off = o + (j * sz + off) by omega]
    congr 1
    have : (j + 1) * sz ≤ rows.length * sz := Nat.mul_le_mul_right _ hlt
    rw [Nat.add_mul] at this
    omega)) (fun a ha => ha.put hd _) hk

theorem Fh.imp {f : FuncId} {vs : List Value} {Hin : Hp} {R R' : Mem → Value → Hp → Prop} (h : Fh P f vs M Hin R) (hr : ∀ M v H, R M v H → R' M v H) : Fh P f vs M Hin R' := fun H w hw =>
  (h H w hw).mono fun e w' ⟨v, M', Hout, he, hm, hs, h1⟩ => ⟨v, M', Hout, he, hm, hs, hr _ _ _ h1⟩

theorem Fo.imp {f : FuncId} {vs : List Value} {Hin : Hp} {R R' : Mem → Value → Prop} (h : Fo P f vs M Hin R) (hr : ∀ M v, R M v → R' M v) : Fo P f vs M Hin R' := fun H w hw =>
  (h H w hw).mono fun e w' ⟨v, M', he, hm, hs, h1⟩ => ⟨v, M', he, hm, hs, hr _ _ h1⟩
end
end Go.Esp
