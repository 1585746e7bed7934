/-
  More rules: worlds told by counting, pieces of slices, appending in place, clearing.
-/
import Derived.Test.YtelpkhhfjfbkcaaDoorRules2
set_option linter.unusedSimpArgs false
set_option linter.unusedVariables false
set_option linter.unnecessarySimpa false
namespace Go.Esp

/-! A world told by counting its blocks. -/

noncomputable section
open Classical

def cnt (x : Nat × Obj) (H : Hp) : Nat := List.count x H

theorem cnt_nil (x : Nat × Obj) : cnt x [] = 0 := rfl
def cnt1 (x y : Nat × Obj) : Nat := List.count x [y]
theorem cnt_cons (x y : Nat × Obj) (H : Hp) : cnt x (y :: H) = cnt1 x y + cnt x H := by
  unfold cnt cnt1
  simp only [List.count_cons, List.count_nil]
  omega
theorem cnt_app (x : Nat × Obj) (A B : Hp) : cnt x (A ++ B) = cnt x A + cnt x B := by simp [cnt, List.count_append]

theorem mem_of_cnt {x : Nat × Obj} {H : Hp} (h : 0 < cnt x H) : x ∈ H := List.count_pos_iff.1 h
theorem cnt_of_mem {x : Nat × Obj} {H : Hp} (h : x ∈ H) : 0 < cnt x H := List.count_pos_iff.2 h

theorem nodup_cnt {H : Hp} : H.Nodup ↔ ∀ x, cnt x H ≤ 1 := List.nodup_iff_count

theorem St.cnt {M : Mem} {H H' : Hp} {w : World} (h : St M H w) (hc : ∀ x, Esp.cnt x H' ≤ Esp.cnt x H) : St M H' w := by
  have hsub : ∀ x, x ∈ H' → x ∈ H := fun x hx => mem_of_cnt (Nat.lt_of_lt_of_le (cnt_of_mem hx) (hc x))
  have hnd : H.Nodup := by
    have := h.nodup
    rw [List.Nodup, List.pairwise_map] at this
    exact this.imp fun hne he => hne (by rw [he])
  have hnd' : H'.Nodup := nodup_cnt.2 fun x => Nat.le_trans (hc x) (nodup_cnt.1 hnd x)
  have hinj : ∀ x ∈ H, ∀ y ∈ H, x.1 = y.1 → x = y := by
    intro x hx y hy hxy
    have h1 := h.own x.1 x.2 hx
    have h2 := h.own y.1 y.2 hy
    rw [hxy, h2] at h1
    have := Option.some.inj h1
    exact Prod.ext hxy this.symm
  refine ⟨h.mem, fun b o hb => h.own b o (hsub _ hb), fun b o hb => h.sep b o (hsub _ hb), ?_, h.io⟩
  rw [List.Nodup, List.pairwise_map]
  refine List.Pairwise.imp_of_mem ?_ hnd'
  intro x y hx hy hne he
  exact hne (hinj x (hsub x hx) y (hsub y hy) he)
end

theorem Upd.over {b : Nat} {o o' : Obj} {H H' : Hp} (h : Upd b o o' H H') : ∀ gs : Hp, Upd b o o' (gs ++ H) (gs ++ H')
  | [] => h
  | _ :: gs => .tail (Upd.over h gs)

section
variable {P : Program} {n : Sh} {ops : Array Oper} {Q : Exit → Act → World → Prop} {rest : List Nat} {M M' : Mem} {H H' H0 : Hp} {e : Env} {J S : World → Prop} {A : As} {i : Nat}
  {dst : Option Tmp} {d : Tmp} {op : Op} {ty : TypeId} {pos : String} {af : Array Edge} {gd : Option (Nat × Bool)}

theorem fh_enterF {f : FuncId} {fn : Func} {c : Code} {vs : List Value} {Hin : Hp} {R : Mem → Value → Hp → Prop} {m : Nat} (F : Hp → Hp) (hF : ∀ H, Hin ++ H = F H) (hf : P.funcs[f]? = some fn) (hb : fn.body = some c) (hm : fn.ntmps = m) (hle : Nat.ble vs.length m = true)
    (h : ∀ H, C P ⟨m, [], none, []⟩ c (bodyPost P fn fun e w' => ∃ v M' Hout, e = .returned v ∧ M.le M' ∧ St M' (Hout ++ H) w' ∧ R M' v Hout) (St M (F H)) (args0 0 vs)) : Fh P f vs M Hin R :=
  fun H _ hw => enter (S := St M (F H)) hf hb hm hle (hF H ▸ hw) (h H)

theorem fhM_enterF {f : FuncId} {fn : Func} {c : Code} {vs : List Value} {Hin : Hp} {R : Mem → Value → Hp → Prop} {m : Nat} (F : Hp → Hp) (hF : ∀ H, Hin ++ H = F H) (hf : P.funcs[f]? = some fn) (hb : fn.body = some c) (hm : fn.ntmps = m) (hle : Nat.ble vs.length m = true)
    (h : ∀ H, C P ⟨m, [], none, []⟩ c (bodyPostM (Fr none) 0 P fn fun e w' => ∃ v M' Hout, e = .returned v ∧ M.le M' ∧ St M' (Hout ++ H) w' ∧ R M' v Hout) (St M (F H)) (args0 0 vs)) : Fh P f vs M Hin R :=
  fun H _ hw => enterM (S := St M (F H)) hf hb hm hle (hF H ▸ hw) (h H)

theorem fo_enterF {f : FuncId} {fn : Func} {c : Code} {vs : List Value} {Hin : Hp} {R : Mem → Value → Prop} {m : Nat} (F : Hp → Hp) (hF : ∀ H, Hin ++ H = F H) (hf : P.funcs[f]? = some fn) (hb : fn.body = some c) (hm : fn.ntmps = m) (hle : Nat.ble vs.length m = true)
    (h : ∀ H, C P ⟨m, [], none, []⟩ c (bodyPost P fn fun e w' => ∃ v M', e = .returned v ∧ M.le M' ∧ St M' (Hin ++ H) w' ∧ R M' v) (St M (F H)) (args0 0 vs)) : Fo P f vs M Hin R :=
  fun H _ hw => enter (S := St M (F H)) hf hb hm hle (hF H ▸ hw) (h H)

theorem foM_enterF {f : FuncId} {fn : Func} {c : Code} {vs : List Value} {Hin : Hp} {R : Mem → Value → Prop} {m : Nat} (F : Hp → Hp) (hF : ∀ H, Hin ++ H = F H) (hf : P.funcs[f]? = some fn) (hb : fn.body = some c) (hm : fn.ntmps = m) (hle : Nat.ble vs.length m = true)
    (h : ∀ H, C P ⟨m, [], none, []⟩ c (bodyPostM (Fr none) 0 P fn fun e w' => ∃ v M', e = .returned v ∧ M.le M' ∧ St M' (Hin ++ H) w' ∧ R M' v) (St M (F H)) (args0 0 vs)) : Fo P f vs M Hin R :=
  fun H _ hw => enterM (S := St M (F H)) hf hb hm hle (hF H ▸ hw) (h H)

/-! Maps, once more: where the block lies is found by unification. -/

theorem X_mapUpdateF {t k el : TypeId} {x y u : Operand} {b : Nat} {z : Int} {v : Value} {o : Obj} {l : IM} (hi : ops[i]? = some ⟨none, .mapUpdate t x y u, ty, pos, af, gd⟩) (hg : want ops e gd = some true)
    (hx : ev e x = some (.map (some b))) (hy : ev e y = some (.int .i64 z)) (hu : ev e u = some v) (ht : mapOf P t = some (k, el)) (ho : imO o l) (hb : (b, o) ∈ H)
    (hk : ∀ o', imO o' (imPut l z v) → ∃ H2, Upd b o o' H H2 ∧ XD P n ops Q rest (St M H2) ⟨M, H2⟩ e) (hnw : n.wrs.contains i = false := by rfl) : XD P n ops Q (i :: rest) J ⟨M, H⟩ e := by
  refine X_mut hi rfl hg (fun a w ha hw => ?_) hnw
  have hb := hw.own b o hb
  obtain ⟨o', hr, ho'⟩ := run_mapUpdate' (P := P) (z := z) (v := v) ht hb ho
  unfold Oper.does
  have : (execOp a.eval ⟨none, .mapUpdate t x y u, ty, pos, af, gd⟩).run P w = .ok .skip { w with heap := w.heap.setIfInBounds b o' } := by
    simp only [execOp, ha.ev hx, ha.ev hy, ha.ev hu]
    rw [run_bind_ok hr]; rfl
  rw [this]
  obtain ⟨H2, hH, hk⟩ := hk o' ho'
  exact ⟨⟨M, H2⟩, e, St.upd hw hH (setIn_self hb) (fun c hc q hq => by rw [setIn_other hc]; exact hq) (SameIO.refl _), ha, hk⟩

theorem X_deleteF {t k el : TypeId} {x y : Operand} {b : Nat} {z : Int} {o : Obj} {l : IM} {ats : Array TypeId} (hi : ops[i]? = some ⟨none, .call ⟨.builtin .delete, #[x, y], ats⟩, ty, pos, af, gd⟩) (hg : want ops e gd = some true)
    (hx : ev e x = some (.map (some b))) (hy : ev e y = some (.int .i64 z)) (hat : ats[0]? = some t) (ht : mapOf P t = some (k, el)) (ho : imO o l) (hb : (b, o) ∈ H)
    (hk : ∀ o', imO o' (imDel l z) → ∃ H2, Upd b o o' H H2 ∧ XD P n ops Q rest (St M H2) ⟨M, H2⟩ e) (hnw : n.wrs.contains i = false := by rfl) : XD P n ops Q (i :: rest) J ⟨M, H⟩ e := by
  refine X_mut hi rfl hg (fun a w ha hw => ?_) hnw
  have hb := hw.own b o hb
  obtain ⟨o', hr, ho'⟩ := run_delete' (P := P) (ty := ty) (z := z) hat ht hb ho
  unfold Oper.does
  have : (execOp a.eval ⟨none, .call ⟨.builtin .delete, #[x, y], ats⟩, ty, pos, af, gd⟩).run P w = .ok (.value (.tuple #[])) { w with heap := w.heap.setIfInBounds b o' } := by
    simp only [execOp, resolve]
    simp only [invoke, builtin]
    have e1 : #[x, y].map a.eval = #[.map (some b), .int .i64 z] := by simp [ha.ev hx, ha.ev hy]
    rw [e1, Sem.run_bind]
    show (Result.ok _ w).andThen _ = _
    rw [Result.andThen_ok]
    exact run_v hr
  rw [this]
  obtain ⟨H2, hH, hk⟩ := hk o' ho'
  exact ⟨⟨M, H2⟩, e, St.upd hw hH (setIn_self hb) (fun c hc q hq => by rw [setIn_other hc]; exact hq) (SameIO.refl _), ha, hk⟩

/-! Pieces of slices. -/

/-- A bound of a piece, where there is one. -/
inductive Bnd (e : Env) : Option Operand → Option Nat → Prop
  | none : Bnd e none none
  | some {x : Operand} {q : IntKind} {z : Int} {k : Nat} : ev e x = some (.int q z) → z = (k : Int) → Bnd e (some x) (some k)

theorem run_sliceBound {w : World} {q : IntKind} {k y : Nat} {code : BoundsCode} (h : k ≤ y) : (Instr.sliceBound (.int q (k : Int)) y code).run P w = .ok k w := by
  simp [Instr.sliceBound, asIntOf, h]

def pieceV (a : Option Addr) (sz lo hi m : Nat) : Value := .slice (if m = lo then a else a.map (·.add (lo * sz))) (hi - lo) (m - lo)

theorem X_slice {t E sz by_ : Nat} {x : Operand} {lo hi mx : Option Operand} {olo ohi omx : Option Nat} {a : Option Addr} {l c : Nat} {v : Value} (hi' : ops[i]? = some ⟨some d, .slice t x lo hi mx, ty, pos, af, gd⟩) (hg : want ops e gd = some true)
    (hx : ev e x = some (.slice a l c)) (h1 : Bnd e lo olo) (h2 : Bnd e hi ohi) (h3 : Bnd e mx omx) (ht : slOf P t = some (E, sz, by_)) (hm : omx.getD c ≤ c) (hh : ohi.getD l ≤ omx.getD c) (hl : olo.getD 0 ≤ ohi.getD l) (hmh : omx.isSome = true → ohi.isSome = true)
    (hv : pieceV a sz (olo.getD 0) (ohi.getD l) (omx.getD c) = v) (hd : Nat.ble (d + 1) n.sz = true)
    (hk : XD P n ops Q rest J A ((d, v) :: e)) : XD P n ops Q (i :: rest) J A e :=
  X_pure hi' rfl hg (fun a' w ha => runs_of (by
    subst hv
    simp only [execOp]
    refine run_v ?_
    obtain ⟨it, hu, hit, rfl, _⟩ := elemOf_spec ht
    unfold Instr.sliceAt
    rw [run_bind_ok (run_underlying' hu)]
    simp only [ha.ev hx]
    unfold Instr.slice
    rw [run_bind_ok (run_underlying' hu)]
    simp only []
    have hb : (Instr.sliceBounds true l c (lo.map a'.eval) (hi.map a'.eval) (mx.map a'.eval)).run P w = .ok (olo.getD 0, ohi.getD l, omx.getD c) w := by
      unfold Instr.sliceBounds
      cases h3 with
      | none =>
        simp only [Option.map_none, Option.getD_none] at hm hh ⊢
        rw [run_bind_ok (show (pure c : Sem Nat).run P w = .ok c w from rfl)]
        cases h2 with
        | none =>
          simp only [Option.map_none, Option.getD_none] at hh hl ⊢
          rw [run_bind_ok (show (pure l : Sem Nat).run P w = .ok l w from rfl)]
          cases h1 with
          | none => rfl
          | some hz hzk =>
            subst hzk
            simp only [Option.map_some, ha.ev hz, Option.getD_some] at hl ⊢
            rw [run_bind_ok (run_sliceBound hl)]; rfl
        | some hy hyk =>
          subst hyk
          simp only [Option.map_some, ha.ev hy, Option.getD_some] at hh hl ⊢
          rw [run_bind_ok (run_sliceBound hh)]
          cases h1 with
          | none => rfl
          | some hz hzk =>
            subst hzk
            simp only [Option.map_some, ha.ev hz, Option.getD_some] at hl ⊢
            rw [run_bind_ok (run_sliceBound hl)]; rfl
      | some hw hwk =>
        subst hwk
        simp only [Option.map_some, ha.ev hw, Option.getD_some] at hm hh hl ⊢
        rw [run_bind_ok (run_sliceBound hm)]
        cases h2 with
        | none => simp at hmh
        | some hy hyk =>
          subst hyk
          simp only [Option.map_some, ha.ev hy, Option.getD_some] at hh hl ⊢
          rw [run_bind_ok (run_sliceBound hh)]
          cases h1 with
          | none => rfl
          | some hz hzk =>
            subst hzk
            simp only [Option.map_some, ha.ev hz, Option.getD_some] at hl ⊢
            rw [run_bind_ok (run_sliceBound hl)]; rfl
    rw [run_bind_ok hb]
    simp only []
    rw [run_bind_ok (run_sizeOf' hit)]
    rfl)) (fun a ha => ha.put hd _) hk

theorem OSl.cut {T sz b k c : Nat} {hs : Hp} {rows : List Segs} (h : OSl T sz (.slice (some ⟨b, 0, none⟩) rows.length c) hs rows) (hk : k ≤ rows.length) : OSl T sz (.slice (some ⟨b, 0, none⟩) k c) hs (rows.take k) := by
  obtain ⟨cur, rfl, _, h1, h2, h3, h4, h5⟩ := h.inv
  have hl : Esp.lens sz (rows.take k) := fun r hr => h1 r (List.mem_of_mem_take hr)
  have hlen : (rows.take k).length = k := by simp [hk]
  have := OSl.own (T := T) b c (rows.take k) cur hl (by omega) h3 h4 (by
    rw [← rowsCells_length hl]
    have h6 : rowsCells rows = rowsCells (rows.take k) ++ rowsCells (rows.drop k) := by rw [← rowsCells_append, List.take_append_drop]
    have h7 : cur.toList.take ((rowsCells (rows.take k)).length) = (cur.toList.take (rows.length * sz)).take ((rowsCells (rows.take k)).length) := by
      rw [List.take_take]
      congr 1
      have : (rowsCells (rows.take k)).length ≤ rows.length * sz := by
        rw [rowsCells_length hl, hlen]; exact Nat.mul_le_mul_right _ hk
      omega
    rw [h7, h5, h6]
    exact List.take_left)
  rw [hlen] at this
  exact this

/-- A piece of a slice of ours, to append from. -/
theorem OSl.src {T sz b k c c' : Nat} {hs H0 : Hp} {rows : List Segs} (h : OSl T sz (.slice (some ⟨b, 0, none⟩) rows.length c) hs rows) (hH : Rem hs H H0) (h1 : ∀ u ∈ rowsCells rows, u.oneCell' = true) : Src M H sz (.slice (some ⟨b, k * sz, none⟩) (rows.length - k) c') (rows.drop k) := by
  obtain ⟨cur, rfl, _, hl, h2, h3, h4, h5⟩ := h.inv
  have hl' : Esp.lens sz (rows.drop k) := fun r hr => hl r (List.mem_of_mem_drop hr)
  have h6 : rowsCells rows = rowsCells (rows.take k) ++ rowsCells (rows.drop k) := by rw [← rowsCells_append, List.take_append_drop]
  refine ⟨hl', fun u hu => h1 u (by rw [h6]; exact List.mem_append_right _ hu), ⟨b, k * sz, none⟩, c', by simp, fun w hw => ?_⟩
  have hb := (hw.perm hH.perm).own b _ (List.mem_append_left _ (.head _))
  refine cellsAt hb (n := (rows.drop k).length * sz) ?_
  rcases Nat.lt_or_ge rows.length k with hk | hk
  · rw [List.drop_of_length_le (Nat.le_of_lt hk)]; simp [rowsCells]
  · have hlt : Esp.lens sz (rows.take k) := fun r hr => hl r (List.mem_of_mem_take hr)
    have h7 : k * sz = (rowsCells (rows.take k)).length := by rw [rowsCells_length hlt]; simp [hk]
    have h8 : (rows.drop k).length * sz = rows.length * sz - k * sz := by rw [List.length_drop, Nat.sub_mul]
    rw [h8, ← List.drop_take, h5, h6, h7]
    exact List.drop_left

theorem Src.nil {sz : Nat} {a : Addr} {c : Nat} : Src M H sz (.slice (some a) 0 c) [] := ⟨fun r hr => (by cases hr), fun u hu => (by cases hu), a, c, rfl, fun w hw j u hu => (by simp [rowsCells] at hu)⟩

/-- append where there is room: the slice stays where it is. -/
theorem X_append_in {t E sz by_ b c : Nat} {x y : Operand} {u : Value} {hs : Hp} {rows news : List Segs} {ats : Array TypeId} {l : Nat} (hi : ops[i]? = some ⟨some d, .call ⟨.builtin .append, #[x, y], ats⟩, ty, pos, af, gd⟩) (hg : want ops e gd = some true)
    (hx : ev e x = some (.slice (some ⟨b, 0, none⟩) l c)) (hy : ev e y = some u) (hat : ats = #[t, t]) (ht : slOf P t = some (E, sz, by_)) (ho : OSl E sz (.slice (some ⟨b, 0, none⟩) l c) hs rows) (hH : Rem hs H H0)
    (hsrc : Src M H sz u news) (hm : rows.length + news.length ≤ c) (hd : Nat.ble (d + 1) n.sz = true)
    (hk : ∀ hs', OSl E sz (.slice (some ⟨b, 0, none⟩) (rows ++ news).length c) hs' (rows ++ news) → XD P n ops Q rest (St M (hs' ++ H0)) ⟨M, hs' ++ H0⟩ ((d, .slice (some ⟨b, 0, none⟩) (rows ++ news).length c) :: e)) (hnw : n.wrs.contains i = false := by rfl) : XD P n ops Q (i :: rest) J ⟨M, H⟩ e := by
  subst hat
  refine X_mut hi rfl hg (fun a w ha hw => ?_) hnw
  obtain ⟨hl, h1, ad, c', rfl, hsr⟩ := hsrc
  obtain ⟨it, hu, hit, rfl, rfl⟩ := elemOf_spec ht
  obtain ⟨cur, rfl, rfl, hlr, hcap, hcm, hcs, htake⟩ := ho.inv
  have hst := hw.perm hH.perm
  have hb := hst.own b _ (List.mem_append_left _ (.head _))
  have hn := hsr w hw
  have hnl : (rowsCells news).length = news.length * it.size := rowsCells_length hl
  have hfit : rows.length * it.size + (rowsCells news).length ≤ cur.size := by rw [hnl, hcs, ← Nat.add_mul]; exact Nat.mul_le_mul_right _ hm
  have hr := run_append_room (P := P) w t ty E it hu hit b rows.length c cur hb ad news.length c' (rowsCells news) hnl hn h1 hm hfit
  have hall : lens it.size (rows ++ news) := hlr.append hl
  have hlen : (rows ++ news).length = rows.length + news.length := by simp
  have h2 : St M ([(b, .cells (cur.toList.take (rows.length * it.size) ++ rowsCells news ++ cur.toList.drop (rows.length * it.size + (rowsCells news).length)).toArray E (0, 0))] ++ H0)
      (w.setRow b (cur.toList.take (rows.length * it.size) ++ rowsCells news ++ cur.toList.drop (rows.length * it.size + (rowsCells news).length)).toArray) :=
    hst.upd .head (setRow_heap w b cur _ E _ hb) (fun c hc x hx => by rw [setRow_other w b c _ hc]; exact hx) (SameIO.refl _)
  unfold Oper.does
  have : (execOp a.eval ⟨some d, .call ⟨.builtin .append, #[x, y], #[t, t]⟩, ty, pos, af, gd⟩).run P w = .ok (.value (.slice (some ⟨b, 0, none⟩) (rows ++ news).length c)) (w.setRow b (cur.toList.take (rows.length * it.size) ++ rowsCells news ++ cur.toList.drop (rows.length * it.size + (rowsCells news).length)).toArray) := by
    simp only [execOp, resolve]
    simp only [invoke, builtin]
    have e1 : #[x, y].map a.eval = #[.slice (some ⟨b, 0, none⟩) rows.length c, .slice (some ad) news.length c'] := by simp [ha.ev hx, ha.ev hy]
    rw [e1]
    rw [Sem.run_bind]
    show (Result.ok _ w).andThen _ = _
    rw [Result.andThen_ok, hlen]
    exact run_v hr
  rw [this]
  refine ⟨⟨M, _⟩, _, h2, ha.put hd _, hk _ ?_⟩
  refine OSl.own b c _ _ hall (by omega) hcm ?_ ?_
  · simp only [List.size_toArray, List.length_append, List.length_take, List.length_drop, Array.length_toList]
    omega
  · rw [htake, ← rowsCells_length hall, rowsCells_append]
    exact List.take_left

/-- clear behind a slice of ours: it stays as it is. -/
theorem X_clear_own {t E sz by_ b c off k c' : Nat} {z : Value} {x : Operand} {hs : Hp} {rows : List Segs} {ats : Array TypeId} {a : Option Addr} (hi : ops[i]? = some ⟨dst, .call ⟨.builtin .clear, #[x], ats⟩, ty, pos, af, gd⟩) (hg : want ops e gd = some true)
    (hx : ev e x = some (.slice a k c')) (ha' : a = some ⟨b, off, none⟩) (hat : ats[0]? = some t) (ht : slOf P t = some (E, sz, by_)) (hz : zeroOf P E = some z) (hzs : z.cells.size = sz) (hz1 : z.cells.all (fun u => u.oneCell') = true) (ho : OSl E sz (.slice (some ⟨b, 0, none⟩) rows.length c) hs rows) (hH : Rem hs H H0)
    (h1 : rows.length * sz ≤ off) (h2 : off + k * sz ≤ c * sz) (hd : ∀ a v, Sat n e a → Sat n (putE dst v e) (a.put dst v))
    (hk : ∀ hs', OSl E sz (.slice (some ⟨b, 0, none⟩) rows.length c) hs' rows → XD P n ops Q rest (St M (hs' ++ H0)) ⟨M, hs' ++ H0⟩ (putE dst (.tuple #[]) e)) (hnw : n.wrs.contains i = false := by rfl) : XD P n ops Q (i :: rest) J ⟨M, H⟩ e := by
  subst ha'
  refine X_mut hi rfl hg (fun a w ha hw => ?_) hnw
  obtain ⟨it, hu, hit, rfl, rfl⟩ := elemOf_spec ht
  obtain ⟨cur, rfl, _, hlr, hcap, hcm, hcs, htake⟩ := ho.inv
  have hst := hw.perm hH.perm
  have hb := hst.own b _ (List.mem_append_left _ (.head _))
  have hz' : it.zero = some z := by simpa [zeroOf, hit] using hz
  unfold Oper.does
  have e1 : #[x].map a.eval = #[.slice (some ⟨b, off, none⟩) k c'] := by simp [ha.ev hx]
  have hrest : ∀ u ∈ (Builtin.zeroCells z.cells k).toList, u.oneCell' = true := by
    intro u hu
    simp only [Builtin.zeroCells, Array.toList_map, List.mem_map] at hu
    obtain ⟨j, hj, rfl⟩ := hu
    have hj' : j < k * z.cells.size := by simpa using hj
    have hpos : 0 < z.cells.size := by
      rcases Nat.eq_zero_or_pos z.cells.size with h | h
      · rw [h] at hj'; omega
      · exact h
    have hlt := Nat.mod_lt j hpos
    have := (Array.all_eq_true.1 hz1) (j % z.cells.size) hlt
    rw [getElem!_pos z.cells (j % z.cells.size) hlt]
    exact this
  have hlen : (Builtin.zeroCells z.cells k).toList.length = k * it.size := by
    rw [Array.length_toList, size_zeroCells, hzs]
  by_cases hk0 : k = 0
  · subst hk0
    have : (execOp a.eval ⟨dst, .call ⟨.builtin .clear, #[x], ats⟩, ty, pos, af, gd⟩).run P w = .ok (.value (.tuple #[])) w := by
      simp only [execOp, resolve]
      simp only [invoke, builtin]
      rw [e1, Sem.run_bind]
      show (Result.ok _ w).andThen _ = _
      rw [Result.andThen_ok]
      refine run_v ?_
      simp [Builtin.clear_, hat, run_underlying hu]
    rw [this]
    have hst2 : St M ([(b, .cells cur E (0, 0))] ++ H0) w := hst
    exact ⟨⟨M, _⟩, _, hst2, hd a _ ha, hk _ ho⟩
  · have hfit : off + 0 + (Builtin.zeroCells z.cells k).toList.length ≤ cur.size := by rw [hlen, hcs]; omega
    have hs' := run_storeCells_at P b off E (Builtin.zeroCells z.cells k).toList 0 cur w hb hfit hrest
    have : (execOp a.eval ⟨dst, .call ⟨.builtin .clear, #[x], ats⟩, ty, pos, af, gd⟩).run P w = .ok (.value (.tuple #[])) (w.setRow b (cur.toList.take (off + 0) ++ (Builtin.zeroCells z.cells k).toList ++ cur.toList.drop (off + 0 + (Builtin.zeroCells z.cells k).toList.length)).toArray) := by
      simp only [execOp, resolve]
      simp only [invoke, builtin]
      rw [e1, Sem.run_bind]
      show (Result.ok _ w).andThen _ = _
      rw [Result.andThen_ok]
      refine run_v ?_
      unfold Builtin.clear_
      simp only [hat]
      have e2 : (#[Value.slice (some ⟨b, off, none⟩) k c'])[0]? = some (.slice (some ⟨b, off, none⟩) k c') := rfl
      simp only [e2]
      rw [run_bind_ok (run_underlying' hu)]
      have hzv : (zeroValue E).run P w = .ok z w := by simp [zeroValue, typeInfo, hit, hz']
      cases k with
      | zero => exact (hk0 rfl).elim
      | succ k =>
        simp only []
        rw [Sem.run_bind, hzv, Result.andThen_ok, Sem.run_bind]
        rw [hs']; rfl
    rw [this]
    have h3 := hst.upd (o' := .cells (cur.toList.take (off + 0) ++ (Builtin.zeroCells z.cells k).toList ++ cur.toList.drop (off + 0 + (Builtin.zeroCells z.cells k).toList.length)).toArray E (0, 0)) .head (setRow_heap w b cur _ E _ hb) (fun c hc x hx => by rw [setRow_other w b c _ hc]; exact hx) (SameIO.refl _)
    have h4 : St M ([(b, .cells (cur.toList.take (off + 0) ++ (Builtin.zeroCells z.cells k).toList ++ cur.toList.drop (off + 0 + (Builtin.zeroCells z.cells k).toList.length)).toArray E (0, 0))] ++ H0) (w.setRow b (cur.toList.take (off + 0) ++ (Builtin.zeroCells z.cells k).toList ++ cur.toList.drop (off + 0 + (Builtin.zeroCells z.cells k).toList.length)).toArray) := h3
    refine ⟨⟨M, _⟩, _, h4, hd a _ ha, hk [(b, _)] ?_⟩
    refine OSl.own b c rows _ hlr hcap hcm ?_ ?_
    · simp only [List.size_toArray, List.length_append, List.length_take, List.length_drop, Array.length_toList] at hlen ⊢
      omega
    · rw [← htake]
      simp only [Nat.add_zero]
      rw [List.append_assoc, List.take_append_of_le_length (by simp; omega), List.take_take]
      congr 1
      omega
theorem OSl.plain {T sz l c : Nat} {a : Option Addr} {hs : Hp} {rows : List Segs} (h : OSl T sz (.slice a l c) hs rows) (hn : 0 < rows.length) : Plain a := by
  cases h with
  | nil => cases hn
  | own b => exact ⟨b, 0, rfl⟩

theorem OSl.addr {T sz l c : Nat} {a : Option Addr} {hs : Hp} {rows : List Segs} (h : OSl T sz (.slice a l c) hs rows) (hn : 0 < rows.length) : ∃ b, a = some ⟨b, 0, none⟩ := by
  cases h with
  | nil => cases hn
  | own b => exact ⟨b, rfl⟩

/-- A load out of an element of a slice of ours. -/
theorem X_load_osl {t T : TypeId} {x : Operand} {j sz off m l c : Nat} {a : Option Addr} {agg : Bool} {rows : List Segs} {r r' : Segs} {v : Value} {MJ : Mem} {HJ HJ0 hs : Hp} (hi : ops[i]? = some ⟨some d, .load t x, ty, pos, af, gd⟩) (hg : want ops e gd = some true)
    (hx : ev e x = some (eptr a j sz off)) (ho : OSl T sz (.slice a l c) hs rows) (hH : Rem hs HJ HJ0) (hr : rows[j]? = some r) (hl : lay P t = some (agg, m)) (hsu : Segs.sub r off m = some r') (hv : readAs agg r' = some v)
    (hd : Nat.ble (d + 1) n.sz = true) (hk : XD P n ops Q rest (St MJ HJ) A ((d, v) :: e)) : XD P n ops Q (i :: rest) (St MJ HJ) A e := by
  obtain ⟨b, rfl⟩ := ho.addr (Nat.lt_of_le_of_lt (Nat.zero_le j) (List.getElem?_eq_some_iff.1 hr).1)
  obtain ⟨_, _, rfl, _⟩ := ho.inv
  exact X_load_own hi hg hx ho hH hr hl hsu hv hd hk

/-- A region in the text's order, the reads of which lean on less. -/
theorem C_regionJ {id : Nat} {l : List Nat} (J : World → Prop) (hJ : ∀ u, St M H u → J u) (hl : List.range ops.size = l) (h : XD P n ops Q l J ⟨M, H⟩ e) : C P n (.region id ops false) Q (St M H) e :=
  fun a w ha hw => wpIn_region (wpOps_of_WD _ J ⟨M, H⟩ a w hJ hw (hl ▸ h hJ a ha))

theorem C_regionR {Hin Hr : Hp} {id : Nat} {l : List Nat} (hR : Rem Hin H Hr) (hl : List.range ops.size = l) (h : XD P n ops Q l (St M Hr) ⟨M, H⟩ e) : C P n (.region id ops false) Q (St M H) e :=
  C_regionJ (St M Hr) (fun _ hw => (hw.perm hR.perm).suf (Suf.app Hin Hr)) hl h

theorem C_regionR2 {Hin Hin2 Hr Hr2 : Hp} {id : Nat} {l : List Nat} (hR : Rem Hin H Hr) (hR2 : Rem Hin2 Hr Hr2) (hl : List.range ops.size = l) (h : XD P n ops Q l (St M Hr2) ⟨M, H⟩ e) : C P n (.region id ops false) Q (St M H) e :=
  C_regionJ (St M Hr2) (fun _ hw => ((((hw.perm hR.perm).suf (Suf.app Hin Hr)).perm hR2.perm).suf (Suf.app Hin2 Hr2))) hl h

theorem C_region_anyR {Hin Hr : Hp} {id : Nat} {l : List Nat} (B : Array Nat) (hR : Rem Hin H Hr) (hl : List.range ops.size = l) (hm : P.follows .mixedOrders = true) (hok : okRegion ops (clsOf P n.wrs ops) B = true)
    (h : XD P n ops Q l (St M Hr) ⟨M, H⟩ e) : C P n (.region id ops true) Q (St M H) e :=
  C_region_any B (St M Hr) hl hm hok St.drawn (fun _ hw => (hw.perm hR.perm).suf (Suf.app Hin Hr)) h

theorem C_region_anyR2 {Hin Hin2 Hr Hr2 : Hp} {id : Nat} {l : List Nat} (B : Array Nat) (hR : Rem Hin H Hr) (hR2 : Rem Hin2 Hr Hr2) (hl : List.range ops.size = l) (hm : P.follows .mixedOrders = true) (hok : okRegion ops (clsOf P n.wrs ops) B = true)
    (h : XD P n ops Q l (St M Hr2) ⟨M, H⟩ e) : C P n (.region id ops true) Q (St M H) e :=
  C_region_any B (St M Hr2) hl hm hok St.drawn (fun _ hw => ((((hw.perm hR.perm).suf (Suf.app Hin Hr)).perm hR2.perm).suf (Suf.app Hin2 Hr2))) h

/-- A call that turns blocks of ours. -/
theorem X_fhR {f : FuncId} {xs : List Operand} {ats : Array TypeId} {vs : List Value} {Hin Hr : Hp} {R : Mem → Value → Hp → Prop} {MJ : Mem} {HJ : Hp} (hi : ops[i]? = some ⟨dst, .call ⟨.value (.func f), xs.toArray, ats⟩, ty, pos, af, gd⟩) (hg : want ops e gd = some true)
    (hf : okFn P f = true) (hx : evs e xs = some vs) (hc : Fh P f vs M Hin R) (hH : Rem Hin H Hr) (hJ : ∀ M' Hout w, M.le M' → St M' (Hout ++ Hr) w → St MJ HJ w)
    (hd : ∀ a v, Sat n e a → Sat n (putE dst v e) (a.put dst v))
    (hk : ∀ v M' Hout, M.le M' → R M' v Hout → XD P n ops Q rest (St MJ HJ) ⟨M', Hout ++ Hr⟩ (putE dst v e)) : XD P n ops Q (i :: rest) (St MJ HJ) ⟨M, H⟩ e :=
  X_fh hi hg hf hx hc hH.perm hJ hd hk
theorem setPart_at : ∀ (pre : List Segs) (z r : Segs) (rest : List Segs), Segs.len z = Segs.len r → setPart (pre ++ z :: rest) pre.length r = some (pre ++ r :: rest)
  | [], z, r, rest, h => by simp [setPart, h]
  | p :: pre, z, r, rest, h => by
    simp only [List.cons_append, List.length_cons, setPart]
    rw [setPart_at pre z r rest h]

theorem setParts_full {sz : Nat} : ∀ (ps : List (Nat × Segs)) (pre rest : List Segs), rest.length = ps.length → lens sz rest → ps.map Prod.fst = List.range' pre.length ps.length → (∀ p ∈ ps, Segs.len p.2 = sz) → setParts (pre ++ rest) ps = some (pre ++ ps.map Prod.snd)
  | [], pre, rest, hl, _, _, _ => by
    have : rest = [] := List.eq_nil_of_length_eq_zero (by simpa using hl)
    subst this
    simp [setParts]
  | (i, r) :: ps, pre, [], hl, _, _, _ => by simp at hl
  | (i, r) :: ps, pre, z :: rest, hl, hs, hi, hp => by
    simp only [List.map_cons, List.length_cons, List.range'_succ, List.cons.injEq] at hi
    obtain ⟨rfl, hi⟩ := hi
    have h1 : Segs.len z = Segs.len r := by rw [hs z (.head _), hp _ (.head _)]
    unfold setParts
    rw [setPart_at pre z r rest h1]
    have := setParts_full ps (pre ++ [r]) rest (by simpa using hl) (fun x hx => hs x (.tail _ hx)) (by simpa using hi) (fun p h => hp p (.tail _ h))
    simpa using this

/-- A slice's literal, all elements of which are given. -/
theorem X_buildSliceF {t E sz by_ k : Nat} {z : Value} {xs : List (Nat × Operand)} {ps : List (Nat × Segs)} {zs' : List Segs} (hi : ops[i]? = some ⟨some d, .buildSlice t k xs.toArray, ty, pos, af, gd⟩) (hg : want ops e gd = some true)
    (ht : slOf P t = some (E, sz, by_)) (hz : zeroOf P E = some z) (hsz : Nat.ble (k * sz) 16777216 = true) (hkm : Nat.ble k 16777216 = true) (hx : EvParts e xs ps) (h1 : ps.map Prod.fst = List.range' 0 k) (h2 : ps.all (fun p => Nat.beq (Segs.len p.2) sz) = true) (hzs : ps.map Prod.snd = zs') (hd : Nat.ble (d + 1) n.sz = true)
    (hk : ∀ b, OSl E sz (.slice (some ⟨b, 0, none⟩) k k) [(b, .cells (rowsCells zs').toArray E (0, 0))] zs' → XD P n ops Q rest J ⟨M, (b, .cells (rowsCells zs').toArray E (0, 0)) :: H⟩ ((d, .slice (some ⟨b, 0, none⟩) k k) :: e)) : XD P n ops Q (i :: rest) J ⟨M, H⟩ e := by
  have hlen : ps.length = k := by have := congrArg List.length h1; simpa using this
  refine X_buildSlice hi hg ht hz hsz hkm hx (fun f => ?_) hd hk
  have := setParts_full (sz := sz) ps [] (onesAll f sz k) (by simp [onesAll, hlen]) (fun r hr => by
    obtain ⟨j, _, rfl⟩ := List.mem_map.1 hr
    exact onesOf_len f j sz) (by simpa [hlen] using h1) (fun p hp => Nat.eq_of_beq_eq_true (List.all_eq_true.1 h2 p hp))
  rw [← hzs]
  simpa using this
theorem pieceV_zero {b o sz h m : Nat} : pieceV (some ⟨b, o, none⟩) sz 0 h m = .slice (some ⟨b, o, none⟩) h m := by
  unfold pieceV
  simp [Addr.add_lit]

theorem pieceV_in {b o sz l h m : Nat} (hne : l < m) : pieceV (some ⟨b, o, none⟩) sz l h m = .slice (some ⟨b, o + l * sz, none⟩) (h - l) (m - l) := by
  unfold pieceV
  rw [if_neg (by omega)]
  simp [Addr.add_lit]

theorem OSl.srcPiece {T sz b k c : Nat} {hs H0 : Hp} {rows : List Segs} (h : OSl T sz (.slice (some ⟨b, 0, none⟩) rows.length c) hs rows) (hH : Rem hs H H0) (h1 : ∀ u ∈ rowsCells rows, u.oneCell' = true) (hk : k ≤ rows.length) : Src M H sz (pieceV (some ⟨b, 0, none⟩) sz k rows.length c) (rows.drop k) := by
  obtain ⟨_, _, _, _, h2, _⟩ := h.inv
  rcases Nat.lt_or_ge k c with hc | hc
  · rw [pieceV_in hc]
    have := OSl.src (M := M) (c' := c - k) (k := k) h hH h1
    simpa using this
  · have e : rows.drop k = [] := List.drop_of_length_le (by omega)
    rw [e]
    unfold pieceV
    rw [show rows.length - k = 0 by omega]
    split
    · exact Src.nil
    · exact Src.nil
theorem Mem.get_of {b : Nat} {o : Obj} (h : M b = some o) (hm : M.le M') : M' b = some o := hm.1 b o h

/-- A load out of a block that never changes. -/
theorem X_load_mem {t T : TypeId} {x : Operand} {b off m : Nat} {agg : Bool} {r r' : Segs} {v : Value} {MJ : Mem} {HJ : Hp} (hi : ops[i]? = some ⟨some d, .load t x, ty, pos, af, gd⟩) (hg : want ops e gd = some true)
    (hx : ev e x = some (.pointer (some ⟨b, off, none⟩))) (hb : MJ b = some (rowO r T)) (hl : lay P t = some (agg, m)) (hs : Segs.sub r off m = some r') (hv : readAs agg r' = some v)
    (hd : Nat.ble (d + 1) n.sz = true) (hk : XD P n ops Q rest (St MJ HJ) A ((d, v) :: e)) : XD P n ops Q (i :: rest) (St MJ HJ) A e :=
  X_read hi rfl hg (fun a' w ha hw => runs_of (by
    simp only [execOp, ha.ev hx]
    obtain ⟨h1, h2⟩ := Segs.sub_cells hs
    obtain ⟨_, _, _, _, h3⟩ := Segs.sub_spec hs
    exact run_v (run_loadAt' (hw.mem _ _ hb) hl h1 h3 hv))) (fun a ha => ha.put hd _) hk
/-- A call that turns blocks of ours, of class wr: what reads lean on is laid anew. -/
theorem X_fhW {f : FuncId} {xs : List Operand} {ats : Array TypeId} {vs : List Value} {Hin Hr : Hp} {R : Mem → Value → Hp → Prop} (hi : ops[i]? = some ⟨dst, .call ⟨.value (.func f), xs.toArray, ats⟩, ty, pos, af, gd⟩) (hws : n.wrs.contains i = true) (hg : want ops e gd = some true)
    (hf : okFn P f = true) (hx : evs e xs = some vs) (hc : Fh P f vs M Hin R) (hH : Rem Hin H Hr)
    (hd : ∀ a v, Sat n e a → Sat n (putE dst v e) (a.put dst v))
    (hk : ∀ v M' Hout, M.le M' → R M' v Hout → XD P n ops Q rest (St M' (Hout ++ Hr)) ⟨M', Hout ++ Hr⟩ (putE dst v e)) : XD P n ops Q (i :: rest) J ⟨M, H⟩ e := by
  obtain ⟨fn, h1, h2, h3⟩ := okFn_spec hf
  refine X_mutW hi rfl hws hg (fun a w ha hw => does_call h1 h2 h3 (by simpa using ha.evs hx) ?_)
  exact (hc Hr w (hw.perm hH.perm)).mono fun e' w' ⟨v, M', Hout, he, hm, hs, hr⟩ => ⟨v, he, ⟨M', Hout ++ Hr⟩, _, hs, hd a v ha, hk v M' Hout hm hr⟩
end
end Go.Esp
