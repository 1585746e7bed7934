/-
  Texts of this claim, one behind the other: B9, Rules16, B10, B11, B12, B13, Seat.
-/
import Derived.Test.YtbeahcfghjiogaaDoorPB2
import Derived.LaidHandle
import Derived.LaidLaws
import Derived.ChangeVars
import Derived.Stop.Joined
set_option linter.unusedSimpArgs false
set_option linter.unusedVariables false
set_option linter.unnecessarySimpa false
set_option maxRecDepth 8000
set_option maxHeartbeats 1000000
namespace Go.Proofs.YtbeahcfghjiogaaDoor
open Go.Esp
end Go.Proofs.YtbeahcfghjiogaaDoor
namespace Go.Esp
theorem parts_if {v : Value} (h : v = .nilIface ∨ ∃ t u, v = .iface t u) : Parts v [.one v] := by
  rcases h with rfl | ⟨t, u, rfl⟩ <;> constructor
theorem pieceV_head {a : Option Addr} {sz hi c : Nat} : pieceV a sz 0 hi c = .slice a hi c := by
  unfold pieceV
  have h : a.map (·.add (0 * sz)) = a := by
    cases a with
    | none => rfl
    | some x => simp [Addr.add]
  rw [h]
  simp
theorem rows_oneM {α : Type} {f : α → Segs} : ∀ (xs : List α), (∀ x ∈ xs, flat (f x)) → ∀ u ∈ rowsCells (xs.map f), u.oneCell' = true
  | [], _, u, hu => by cases hu
  | x :: r, h, u, hu => by
    rcases List.mem_append.1 (show u ∈ Segs.cells (f x) ++ rowsCells (r.map f) from hu) with hu | hu
    · exact h x (.head _) u hu
    · exact rows_oneM r (fun y hy => h y (.tail _ hy)) u hu
section
variable {P : Program} {n : Sh} {ops : Array Oper} {Q : Exit → Act → World → Prop} {rest : List Nat} {M M' : Mem} {H H' H0 : Hp} {e : Env} {J S : World → Prop} {A : As} {i : Nat}
  {dst : Option Tmp} {d : Tmp} {op : Op} {ty : TypeId} {pos : String} {af : Array Edge} {gd : Option (Nat × Bool)}
theorem X_appendKM {α : Type} {f : α → Segs} {xs : List α} {t E sz by_ m c' : Nat} {z : Value} {x y : Operand} {v : Value} {a : Option Addr} {hs : Hp} {rows : List Segs} {ats : Array TypeId} (hi : ops[i]? = some ⟨some d, .call ⟨.builtin .append, #[x, y], ats⟩, ty, pos, af, gd⟩) (hg : want ops e gd = some true)
    (hx : ev e x = some v) (hy : ev e y = some (.slice a xs.length c')) (hat : ats = #[t, t]) (ht : slOf P t = some (E, sz, by_)) (hz : zeroOf P E = some z) (hzs : z.cells.size = sz) (hsz : Nat.ble 1 sz = true) (ho : OSl E sz v hs rows) (hH : Rem hs H H0)
    (hsrc : SlM M a (xs.map f) sz) (hf : ∀ x ∈ xs, flat (f x)) (hm : rows.length + xs.length ≤ m) (hbm : Nat.ble (m * (by_ + 1)) 140737488355328 = true) (hd : Nat.ble (d + 1) n.sz = true)
    (hk : ∀ v' hs', OSl E sz v' hs' (rows ++ xs.map f) → XD P n ops Q rest (St M (hs' ++ H0)) ⟨M, hs' ++ H0⟩ ((d, v') :: e)) (hnw : n.wrs.contains i = false := by rfl) : XD P n ops Q (i :: rest) J ⟨M, H⟩ e := by
  cases a with
  | some ad => exact Zbi hi hg hx hy hat ht hz hzs hsz ho hH (SlM.src hsrc (rows_oneM _ hf) (List.length_map ..).symm) (by simpa using hm) hbm hd hk hnw
  | none =>
    have hl := hsrc.none_nil
    subst hl
    obtain ⟨a1, c1, rfl⟩ := ho.val
    obtain ⟨g1, _, _⟩ := ho.caps
    have hk' := hk _ _ (by simpa using ho)
    exact X_append_none hi hg hx hy hat ht g1 hd (XD_perm hH.perm hk') hnw
end
end Go.Esp
namespace Go.Proofs.YtbeahcfghjiogaaDoor
open Go.Esp
theorem F.elem22 : slOf Tryd.prog 22 = some (55, 4, 40) := by kernel_rfl
theorem F.foff55_2 : foff Tryd.prog 55 2 = some 2 := by kernel_rfl
theorem few_ok (M : Mem) (s : Sl StepL06V) (hs : Scr M s) : Fs Tryd.prog 7 [s.val] M (fun v => v = .bool (decide (FewP s.l))) := by
  have hscr := hs.h
  obtain ⟨s_a, s_c, s_l⟩ := s
  have s_s : SlM M s_a (s_l.map StepL06V.segs) 4 := hs.k.h1
  have n_s : (s_l.map StepL06V.segs).length = s_l.length := List.length_map ..
  have m_s : s_l.length ≤ 9223372036854775807 := hs.k.h2
  simp only at hscr
  refine Zbb Tryd.func7 rfl Tryd.ntmps7 rfl ?_; intro H
  refine Zj ?_; refine Za (l := [0]) rfl ?_; refine Zf rfl rfl rfl rfl ?_; refine Zg ?_; refine Zd ?_; refine Zj ?_; refine Za (l := [0]) rfl ?_; refine Zf rfl rfl rfl rfl ?_; refine Zg ?_; refine Zd ?_; refine Zj ?_; refine Zj ?_; refine Za (l := [0]) rfl ?_; refine Zf rfl rfl rfl rfl ?_; refine Zg ?_; refine Zd ?_; refine Zx ?_; refine Zk (.cons (k := 4) rfl (.cons (k := 3) rfl (.cons (k := 2) rfl (.cons (k := 0) rfl .nil)))) ?_; refine C_loopS (.succ (.succ .zero)) (fun (k : Nat) z => z = [(4, .int .i64 (k : Int)), (3, .int .i64 ((sumOps (s_l.take k) : Nat) : Int))] ∧ k ≤ s_l.length ∧ sumOps (s_l.take k) ≤ k * 140737488351232 ∧ (0 < k → s_l.length ≤ 60)) (fun k => s_l.length - k) (0) (⟨rfl, by omega, by simp [sumOps], by omega⟩) ?_
  rintro k _ ⟨rfl, hk, hI, hJ⟩
  have hsz : ∀ hk2 : k < s_l.length, s_l[k].op.size ≤ 140737488351232 := fun hk2 => (hscr _ (List.getElem_mem hk2)).1
  refine Zj ?_; refine Zj ?_; refine Za (l := [0, 1, 2, 3, 4, 5, 6, 7, 8]) rfl ?_; refine Zc rfl rfl rfl rfl ?_; refine Zc rfl rfl rfl rfl ?_; refine Zan rfl rfl rfl rfl F.elem22 rfl ?_; refine Zas rfl rfl rfl rfl rfl rfl ?_; refine Zc rfl rfl rfl rfl ?_
  refine Zbn 9 rfl (fun hc1 => ?_) (fun hc1 => ?_)
  · first | replace hc1 := dT hc1 | replace hc1 := dF hc1 | replace hc1 := nT hc1 | replace hc1 := nF hc1 | skip
    try simp only [StepL06V.eta] at hc1
    first
    | (exfalso; omega)
    | (exfalso; simp [eqX] at hc1; done)
    | contradiction
    | skip
      refine Zc rfl rfl rfl rfl ?_; refine Zan rfl rfl rfl rfl F.elem22 rfl ?_; refine Zas rfl rfl rfl rfl rfl rfl ?_; refine Zag rfl rfl rfl rfl rfl ?_; refine Zg ?_; refine Zd ?_
      refine Zae rfl (fun hc2 => ?_) (fun hc2 => ?_)
      · first | replace hc2 := dT hc2 | replace hc2 := dF hc2 | replace hc2 := nT hc2 | replace hc2 := nF hc2 | skip
        try simp only [StepL06V.eta] at hc2
        first
        | (exfalso; omega)
        | (exfalso; simp [eqX] at hc2; done)
        | contradiction
        | skip
          refine Zy ?_; refine Zd ?_; refine Zj ?_; refine Zx ?_; refine Za (l := [0, 1, 2, 3, 4, 5, 6, 7, 8]) rfl ?_; refine Zc rfl rfl rfl rfl ?_; refine Zc rfl rfl rfl rfl ?_; refine Zc rfl rfl rfl rfl ?_; refine Zq rfl rfl rfl rfl F.elem22 (by first | rfl | exact (Int.toNat_of_nonneg (by omega)).symm) (by first | omega | (simp; done) | (simp; omega)) (by first | exact ⟨_, _, rfl⟩ | assumption | exact SlM.plain (by assumption) (by first | (simp; done) | (simp; omega)) | exact RdS.plain (by assumption) (by first | (simp; done) | (simp; omega)) | exact OSl.plain (by assumption) (by first | (simp; done) | (simp; omega))) rfl ?_
          first | refine Zaf rfl rfl rfl F.foff55_2 rfl ?_ | refine Zv rfl rfl rfl (by first | exact ⟨_, _, rfl⟩ | assumption | exact SlM.plain (by assumption) (by first | (simp; done) | (simp; omega)) | exact RdS.plain (by assumption) (by first | (simp; done) | (simp; omega)) | exact OSl.plain (by assumption) (by first | (simp; done) | (simp; omega))) F.foff55_2 rfl ?_
          first | refine Zab rfl rfl rfl (by repeat first | exact List.Mem.head _ | refine List.Mem.tail _ ?_ | refine List.mem_append_right _ ?_) F.lay9 rfl rfl rfl ?_ | refine Zp rfl rfl rfl (by first | assumption | exact SlM.mono (by assumption) (by assumption)) (by first | exact Zb (by omega) | exact List.getElem?_eq_getElem (by omega) | exact rfl | exact Zb (by first | (simp; done) | (simp; omega))) F.lay9 rfl rfl rfl ?_ | refine Zo rfl rfl rfl (by assumption) (by first | exact Zb (by omega) | exact List.getElem?_eq_getElem (by omega) | exact rfl | exact Zb (by first | (simp; done) | (simp; omega))) F.lay9 rfl rfl rfl ?_ | refine Zm rfl rfl rfl (by first | assumption | exact Mem.get_of (by assumption) (by repeat first | assumption | refine Mem.le.trans (by assumption) ?_)) F.lay9 rfl rfl rfl ?_ | refine Zl rfl rfl rfl (by assumption) (by repeat first | exact Rem.here _ | exact Rem.two | apply Rem.skip | apply Rem.over) (by first | exact Zb (by omega) | exact List.getElem?_eq_getElem (by omega) | exact rfl | exact Zb (by first | (simp; done) | (simp; omega))) F.lay9 rfl rfl rfl ?_ | refine Zn rfl rfl rfl (by repeat first | exact List.Mem.head _ | refine List.Mem.tail _ ?_ | refine List.mem_append_right _ ?_) F.lay9 (by first | exact Zat (by first | omega | decide) | exact Zai (by first | omega | decide)) rfl ?_
          refine Zbd 21 rfl (show _ = Value.string s_l[k].op from rfl) ?_; refine X_len_str rfl rfl rfl rfl Tryd.underlying9 rfl ?_
          have h9 := hsz (by omega)
          refine Zbe rfl rfl rfl rfl rfl (by first | exact Zak (by decide) (by omega) | exact Zr (by decide) (by omega) | exact Zu (by decide) (by omega) | exact Zs (by decide) (by omega) | exact Zz _ | exact Zaj _ | exact Zaa _ | exact rfl) rfl ?_; refine Zf rfl rfl rfl rfl ?_; refine Zg ?_; refine Zaw ?_; refine Zd ?_; refine Za (l := [0, 1, 2]) rfl ?_; refine Zc rfl rfl rfl rfl ?_; refine Zbe rfl rfl rfl rfl rfl (by first | exact Zak (by decide) (by omega) | exact Zr (by decide) (by omega) | exact Zu (by decide) (by omega) | exact Zs (by decide) (by omega) | exact Zz _ | exact Zaj _ | exact Zaa _ | exact rfl) rfl ?_; refine Zf rfl rfl rfl rfl ?_; refine Zg ?_; refine Zav (a' := [(4, _), (3, _)]) (k + 1) (.cons (k := 4) rfl (.cons (k := 3) rfl (.cons (k := 2) rfl (.cons (k := 0) rfl (.nil))))) (fun w hw => by first | exact hw | exact hw.cnt (by intro zz; first | exact Nat.le_refl _ | (simp only [Zh, Ze, Zi, cat, List.append_eq, List.append_assoc, List.cons_append, List.nil_append, List.append_nil]; omega) | (simp only [Zh, Ze, Zi, cat, List.append_eq, List.append_assoc, List.cons_append, List.nil_append, List.append_nil, StepL06V.segs]; omega))) ?_ ?_
          · refine ⟨?_, by omega, ?_, fun _ => by omega⟩
            · rw [sumOps_succ (by omega), Int.natCast_add]; rfl
            · have h9 := hsz (by omega); rw [sumOps_succ (by omega)]; omega
          · omega
      · first | replace hc2 := dT hc2 | replace hc2 := dF hc2 | replace hc2 := nT hc2 | replace hc2 := nF hc2 | skip
        try simp only [StepL06V.eta] at hc2
        first
        | (exfalso; omega)
        | (exfalso; simp [eqX] at hc2; done)
        | contradiction
        | skip
          refine Zbk ?_; refine Zau ?_; refine Zau ?_; refine Zbs ?_; refine Zd ?_; refine Zk (.cons (k := 3) rfl (.cons (k := 2) rfl (.cons (k := 0) rfl .nil))) ?_; refine Zj ?_; refine Za (l := [0, 1, 2, 3, 4, 5, 6, 7]) rfl ?_; refine Zc rfl rfl rfl rfl ?_; refine Zan rfl rfl rfl rfl F.elem22 rfl ?_; refine Zas rfl rfl rfl rfl rfl rfl ?_; refine Zc rfl rfl rfl rfl ?_
          refine Zbn 27 rfl (fun hc3 => ?_) (fun hc3 => ?_)
          · first | replace hc3 := dT hc3 | replace hc3 := dF hc3 | replace hc3 := nT hc3 | replace hc3 := nF hc3 | skip
            try simp only [StepL06V.eta] at hc3
            first
            | (exfalso; omega)
            | (exfalso; simp [eqX] at hc3; done)
            | contradiction
            | skip
              refine Zc rfl rfl rfl rfl ?_; refine Zas rfl rfl rfl rfl rfl rfl ?_; refine Zag rfl rfl rfl rfl rfl ?_; refine Zf rfl rfl rfl rfl ?_; refine Zg ?_; refine Zd ?_; refine Zk (.cons (k := 2) rfl .nil) ?_; refine Zaq ?_
              refine Zap (.inr rfl) (.tmp rfl .nil) (fun w hw => ?_)
              refine ⟨_, rfl, hw.cnt (by intro zz; first | exact Nat.le_refl _ | (simp only [Zh, Ze, Zi, cat, List.append_eq, List.append_assoc, List.cons_append, List.nil_append, List.append_nil]; omega) | (simp only [Zh, Ze, Zi, cat, List.append_eq, List.append_assoc, List.cons_append, List.nil_append, List.append_nil, StepL06V.segs]; omega)), ?_⟩
              clear hw
              refine congrArg Value.bool ?_
              first
              | (refine (decide_eq_false (fun h9 => ?_)).symm; have h8 : s_l.length ≤ 60 := h9.1; omega)
              | (obtain rfl : k = s_l.length := (by omega); rw [List.take_length]; refine decide_eq_decide.2 ⟨fun h9 => ⟨by show s_l.length ≤ 60; omega, by show sumOps s_l ≤ 2000; omega⟩, fun h9 => ?_⟩; have h8 : sumOps s_l ≤ 2000 := h9.2; omega)
          · first | replace hc3 := dT hc3 | replace hc3 := dF hc3 | replace hc3 := nT hc3 | replace hc3 := nF hc3 | skip
            try simp only [StepL06V.eta] at hc3
            first
            | (exfalso; omega)
            | (exfalso; simp [eqX] at hc3; done)
            | contradiction
            | skip
              refine Zac rfl rfl rfl ?_; refine Zac rfl rfl rfl ?_; refine Zag rfl rfl rfl rfl rfl ?_; refine Zf rfl rfl rfl rfl ?_; refine Zg ?_; refine Zd ?_; refine Zk (.cons (k := 2) rfl .nil) ?_; refine Zaq ?_
              refine Zap (.inr rfl) (.tmp rfl .nil) (fun w hw => ?_)
              refine ⟨_, rfl, hw.cnt (by intro zz; first | exact Nat.le_refl _ | (simp only [Zh, Ze, Zi, cat, List.append_eq, List.append_assoc, List.cons_append, List.nil_append, List.append_nil]; omega) | (simp only [Zh, Ze, Zi, cat, List.append_eq, List.append_assoc, List.cons_append, List.nil_append, List.append_nil, StepL06V.segs]; omega)), ?_⟩
              clear hw
              refine congrArg Value.bool ?_
              first
              | (refine (decide_eq_false (fun h9 => ?_)).symm; have h8 : s_l.length ≤ 60 := h9.1; omega)
              | (obtain rfl : k = s_l.length := (by omega); rw [List.take_length]; refine decide_eq_decide.2 ⟨fun h9 => ⟨by show s_l.length ≤ 60; omega, by show sumOps s_l ≤ 2000; omega⟩, fun h9 => ?_⟩; have h8 : sumOps s_l ≤ 2000 := h9.2; omega)
  · first | replace hc1 := dT hc1 | replace hc1 := dF hc1 | replace hc1 := nT hc1 | replace hc1 := nF hc1 | skip
    try simp only [StepL06V.eta] at hc1
    first
    | (exfalso; omega)
    | (exfalso; simp [eqX] at hc1; done)
    | contradiction
    | skip
      refine Zac rfl rfl rfl ?_; refine Zac rfl rfl rfl ?_; refine Zac rfl rfl rfl ?_; refine Zag rfl rfl rfl rfl rfl ?_; refine Zg ?_; refine Zd ?_; refine Zba rfl ?_; refine Zbk ?_; refine Zau ?_; refine Zau ?_; refine Zbs ?_; refine Zd ?_; refine Zk (.cons (k := 3) rfl (.cons (k := 2) rfl (.cons (k := 0) rfl .nil))) ?_; refine Zj ?_; refine Za (l := [0, 1, 2, 3, 4, 5, 6, 7]) rfl ?_; refine Zc rfl rfl rfl rfl ?_; refine Zan rfl rfl rfl rfl F.elem22 rfl ?_; refine Zas rfl rfl rfl rfl rfl rfl ?_; refine Zc rfl rfl rfl rfl ?_
      refine Zbn 27 rfl (fun hc4 => ?_) (fun hc4 => ?_)
      · first | replace hc4 := dT hc4 | replace hc4 := dF hc4 | replace hc4 := nT hc4 | replace hc4 := nF hc4 | skip
        try simp only [StepL06V.eta] at hc4
        first
        | (exfalso; omega)
        | (exfalso; simp [eqX] at hc4; done)
        | contradiction
        | skip
          refine Zc rfl rfl rfl rfl ?_; refine Zas rfl rfl rfl rfl rfl rfl ?_; refine Zag rfl rfl rfl rfl rfl ?_; refine Zf rfl rfl rfl rfl ?_; refine Zg ?_; refine Zd ?_; refine Zk (.cons (k := 2) rfl .nil) ?_; refine Zaq ?_
          refine Zap (.inr rfl) (.tmp rfl .nil) (fun w hw => ?_)
          refine ⟨_, rfl, hw.cnt (by intro zz; first | exact Nat.le_refl _ | (simp only [Zh, Ze, Zi, cat, List.append_eq, List.append_assoc, List.cons_append, List.nil_append, List.append_nil]; omega) | (simp only [Zh, Ze, Zi, cat, List.append_eq, List.append_assoc, List.cons_append, List.nil_append, List.append_nil, StepL06V.segs]; omega)), ?_⟩
          clear hw
          refine congrArg Value.bool ?_
          first
          | (refine (decide_eq_false (fun h9 => ?_)).symm; have h8 : s_l.length ≤ 60 := h9.1; omega)
          | (obtain rfl : k = s_l.length := (by omega); rw [List.take_length]; refine decide_eq_decide.2 ⟨fun h9 => ⟨by show s_l.length ≤ 60; omega, by show sumOps s_l ≤ 2000; omega⟩, fun h9 => ?_⟩; have h8 : sumOps s_l ≤ 2000 := h9.2; omega)
      · first | replace hc4 := dT hc4 | replace hc4 := dF hc4 | replace hc4 := nT hc4 | replace hc4 := nF hc4 | skip
        try simp only [StepL06V.eta] at hc4
        first
        | (exfalso; omega)
        | (exfalso; simp [eqX] at hc4; done)
        | contradiction
        | skip
          refine Zac rfl rfl rfl ?_; refine Zac rfl rfl rfl ?_; refine Zag rfl rfl rfl rfl rfl ?_; refine Zf rfl rfl rfl rfl ?_; refine Zg ?_; refine Zd ?_; refine Zk (.cons (k := 2) rfl .nil) ?_; refine Zaq ?_
          refine Zap (.inr rfl) (.tmp rfl .nil) (fun w hw => ?_)
          refine ⟨_, rfl, hw.cnt (by intro zz; first | exact Nat.le_refl _ | (simp only [Zh, Ze, Zi, cat, List.append_eq, List.append_assoc, List.cons_append, List.nil_append, List.append_nil]; omega) | (simp only [Zh, Ze, Zi, cat, List.append_eq, List.append_assoc, List.cons_append, List.nil_append, List.append_nil, StepL06V.segs]; omega)), ?_⟩
          clear hw
          refine congrArg Value.bool ?_
          first
          | (refine (decide_eq_false (fun h9 => ?_)).symm; have h8 : s_l.length ≤ 60 := h9.1; omega)
          | (obtain rfl : k = s_l.length := (by omega); rw [List.take_length]; refine decide_eq_decide.2 ⟨fun h9 => ⟨by show s_l.length ≤ 60; omega, by show sumOps s_l ≤ 2000; omega⟩, fun h9 => ?_⟩; have h8 : sumOps s_l ≤ 2000 := h9.2; omega)
end Go.Proofs.YtbeahcfghjiogaaDoor
namespace Go.Proofs.YtbeahcfghjiogaaDoor
open Go.Esp
theorem F.foff55_0 : foff Tryd.prog 55 0 = some 0 := by kernel_rfl
theorem F.foff55_1 : foff Tryd.prog 55 1 = some 1 := by kernel_rfl
theorem F.foff55_3 : foff Tryd.prog 55 3 = some 3 := by kernel_rfl
theorem F.lay55 : lay Tryd.prog 55 = some (true, 4) := by kernel_rfl
theorem F.ok21 : okFn Tryd.prog 21 = true := by kernel_rfl
theorem F.ok22 : okFn Tryd.prog 22 = true := by kernel_rfl
theorem F.ok25 : okFn Tryd.prog 25 = true := by kernel_rfl
theorem F.ok26 : okFn Tryd.prog 26 = true := by kernel_rfl
theorem F.ok27 : okFn Tryd.prog 27 = true := by kernel_rfl
theorem F.zero55 : zeroOf Tryd.prog 55 = some (aggV [.one (.int .i64 0), .one (.int .i64 0), .one (.string ⟨#[]⟩), .one (.int .i64 0)]) := by kernel_rfl
theorem built_ok (M : Mem) (s : Sl StepL06V) (hs : Scr M s) (hfew : FewP s.l) : Esp.Fn Tryd.prog 8 [s.val] M (fun M' v => ∃ (es : List (Option Err)) (x : Sl Value) (y : Sl TrR), v = .tuple #[x.val, y.val] ∧ Built M' es x y) := by
  have hscr := hs.h
  obtain ⟨s_a, s_c, s_l⟩ := s
  have s_s : SlM M s_a (s_l.map StepL06V.segs) 4 := hs.k.h1
  have n_s : (s_l.map StepL06V.segs).length = s_l.length := List.length_map ..
  have m_s : s_l.length ≤ 9223372036854775807 := hs.k.h2
  simp only at hscr
  refine fn_enter Tryd.func8 rfl Tryd.ntmps8 rfl ?_; intro H
  refine Zj ?_; refine Za (l := [0, 1]) rfl ?_; refine Zf rfl rfl rfl rfl ?_; refine Zf rfl rfl rfl rfl ?_; refine Zg ?_; refine Zd ?_; refine Zj ?_; refine Za (l := [0]) rfl ?_; refine Zf rfl rfl rfl rfl ?_; refine Zg ?_; refine Zd ?_; refine Zj ?_; refine Za (l := [0]) rfl ?_; refine Zf rfl rfl rfl rfl ?_; refine Zg ?_; refine Zd ?_; refine Zj ?_; refine Zj ?_; refine Za (l := [0]) rfl ?_; refine Zf rfl rfl rfl rfl ?_; refine Zg ?_; refine Zd ?_; refine Zx ?_; refine Zk (.cons (k := 6) rfl (.cons (k := 4) rfl (.cons (k := 5) rfl (.cons (k := 3) rfl (.cons (k := 2) rfl (.cons (k := 0) rfl .nil)))))) ?_; refine C_loopO (Hin := []) (.succ (.succ (.succ .zero))) (by repeat first | exact Rem.here _ | exact Rem.two | apply Rem.skip | apply Rem.over) (fun (k : Nat) M1 h1 z => ∃ (es : List (Option Err)) (ws : List Value) (ts : List TrR) (v4 v5 : Value) (hl hm : Hp), M.le M1 ∧ z = [(6, .int .i64 (k : Int)), (4, v4), (5, v5)] ∧ k ≤ s_l.length ∧ h1 = hl ++ hm ∧ OSl 30 1 v4 hl (ws.map (fun u => ([.one u] : Segs))) ∧ OSl 32 4 v5 hm (ts.map TrR.segs) ∧ OEL M1 es ws ∧ TOL M1 es ts ∧ okS es ∧ wtS es ≤ 30 * k + sumOps (s_l.take k) ∧ es.length ≤ k) (fun k => s_l.length - k) (0) (⟨[], [], [], _, _, [], [], Mem.le.refl M, rfl, by omega, rfl, OSl.nil, OSl.nil, OEL.nil, TOL.nil, fun _ h => (by cases h), by simp [wtS], Nat.le_refl _⟩) ?_
  rintro k M1 h1 z hm1 ⟨es, ws, ts, v4, v5, hl, hm, hle1, rfl, hk, rfl, ho4, ho5, he, ht, hok, hwt, hel⟩
  obtain ⟨ad4, cp4, rfl⟩ := ho4.valL
  obtain ⟨ad5, cp5, rfl⟩ := ho5.valL
  have hlw := he.len
  have hlt := ht.len
  have s_1 : SlM M1 s_a (s_l.map StepL06V.segs) 4 := s_s.mono hle1
  have nw : (ws.map (fun u => ([.one u] : Segs))).length = ws.length := List.length_map ..
  have nt : (ts.map TrR.segs).length = ts.length := List.length_map ..
  have hsc9 : ∀ hk2 : k < s_l.length, s_l[k].op.size ≤ 140737488351232 ∧ -9223372036854775808 ≤ s_l[k].code ∧ s_l[k].code ≤ 9223372036854775807 := fun hk2 => hscr _ (List.getElem_mem hk2)
  have hso9 : ∀ hk2 : k < s_l.length, sumOps (s_l.take (k + 1)) = sumOps (s_l.take k) + s_l[k].op.size := fun hk2 => sumOps_succ hk2
  simp only [List.append_assoc]
  refine Zj ?_; refine Zj ?_
  have hf2 : s_l.length ≤ 60 := hfew.1
  refine Za (l := [0, 1, 2, 3]) rfl ?_; refine Zc rfl rfl rfl rfl ?_; refine Zc rfl rfl rfl rfl ?_; refine Zan rfl rfl rfl rfl F.elem22 rfl ?_; refine Zas rfl rfl rfl rfl rfl rfl ?_; refine Zg ?_; refine Zd ?_
  refine Zae rfl (fun hc1 => ?_) (fun hc1 => ?_)
  · first | replace hc1 := dT hc1 | replace hc1 := dF hc1 | replace hc1 := nT hc1 | replace hc1 := nF hc1 | skip
    try simp only [StepL06V.eta] at hc1
    first
    | (exfalso; omega)
    | (exfalso; simp [eqX] at hc1; done)
    | contradiction
    | skip
      refine Zy ?_; refine Zd ?_; refine Zj ?_; refine Zx ?_; refine Zj ?_; refine Za (l := [0, 1, 2, 3, 4, 5]) rfl ?_; refine Zc rfl rfl rfl rfl ?_; refine Zc rfl rfl rfl rfl ?_; refine Zq rfl rfl rfl rfl F.elem22 (by first | rfl | exact (Int.toNat_of_nonneg (by omega)).symm) (by first | omega | (simp; done) | (simp; omega)) (by first | exact ⟨_, _, rfl⟩ | assumption | exact SlM.plain (by assumption) (by first | (simp; done) | (simp; omega)) | exact RdS.plain (by assumption) (by first | (simp; done) | (simp; omega)) | exact OSl.plain (by assumption) (by first | (simp; done) | (simp; omega))) rfl ?_
      first | refine Zab rfl rfl rfl (by repeat first | exact List.Mem.head _ | refine List.Mem.tail _ ?_ | refine List.mem_append_right _ ?_) F.lay55 rfl rfl rfl ?_ | refine Zp rfl rfl rfl (by first | assumption | exact SlM.mono (by assumption) (by assumption)) (by first | exact Zb (by omega) | exact List.getElem?_eq_getElem (by omega) | exact rfl | exact Zb (by first | (simp; done) | (simp; omega))) F.lay55 rfl rfl rfl ?_ | refine Zo rfl rfl rfl (by assumption) (by first | exact Zb (by omega) | exact List.getElem?_eq_getElem (by omega) | exact rfl | exact Zb (by first | (simp; done) | (simp; omega))) F.lay55 rfl rfl rfl ?_ | refine Zm rfl rfl rfl (by first | assumption | exact Mem.get_of (by assumption) (by repeat first | assumption | refine Mem.le.trans (by assumption) ?_)) F.lay55 rfl rfl rfl ?_ | refine Zl rfl rfl rfl (by assumption) (by repeat first | exact Rem.here _ | exact Rem.two | apply Rem.skip | apply Rem.over) (by first | exact Zb (by omega) | exact List.getElem?_eq_getElem (by omega) | exact rfl | exact Zb (by first | (simp; done) | (simp; omega))) F.lay55 rfl rfl rfl ?_
      refine Zbd 23 rfl (show _ = aggV [.one (.int .i64 s_l[k].kind), .one (.int .i64 s_l[k].code), .one (.string s_l[k].op), .one (.int .i64 s_l[k].n)] from rfl) ?_
      refine X_alloc rfl rfl F.zero55 (by constructor) rfl ?_; intro b2
      refine Zbm rfl rfl rfl rfl (by constructor) (by first | ((try simp only [cat, List.cons_append, List.nil_append, List.append_nil]); (repeat (first | exact Zam | refine Zaz ?_ | (refine Zah ?_ ?_; rfl))); done) | exact StepL06V.flat _ | exact StepL06V.flat ⟨_, _, _, _⟩ | exact TrR.flat _ | (simp [flat, cat, Segs.cells, Seg.cells, Value.oneCell']; done)) (by repeat first | exact Upd.head | apply Upd.tail | apply Upd.over) F.lay55 rfl rfl ?_; refine Zg ?_; refine Zd ?_; refine Zj ?_; refine Za (l := [0, 1, 2, 3]) rfl ?_; refine Zc rfl rfl rfl rfl ?_; refine Zan rfl rfl rfl rfl F.elem25 rfl ?_; refine Zbe rfl rfl rfl rfl rfl (by first | exact Zak (by decide) (by omega) | exact Zr (by decide) (by omega) | exact Zu (by decide) (by omega) | exact Zs (by decide) (by omega) | exact Zz _ | exact Zaj _ | exact Zaa _ | exact rfl) rfl ?_
      refine Zf rfl rfl rfl rfl ?_; refine Zg ?_; refine Zd ?_; refine Zj ?_; refine Za (l := [0, 1]) rfl ?_
      first | refine Zaf rfl rfl rfl F.foff55_0 rfl ?_ | refine Zv rfl rfl rfl (by first | exact ⟨_, _, rfl⟩ | assumption | exact SlM.plain (by assumption) (by first | (simp; done) | (simp; omega)) | exact RdS.plain (by assumption) (by first | (simp; done) | (simp; omega)) | exact OSl.plain (by assumption) (by first | (simp; done) | (simp; omega))) F.foff55_0 rfl ?_
      first | refine Zab rfl rfl rfl (by repeat first | exact List.Mem.head _ | refine List.Mem.tail _ ?_ | refine List.mem_append_right _ ?_) F.lay3 rfl rfl rfl ?_ | refine Zp rfl rfl rfl (by first | assumption | exact SlM.mono (by assumption) (by assumption)) (by first | exact Zb (by omega) | exact List.getElem?_eq_getElem (by omega) | exact rfl | exact Zb (by first | (simp; done) | (simp; omega))) F.lay3 rfl rfl rfl ?_ | refine Zo rfl rfl rfl (by assumption) (by first | exact Zb (by omega) | exact List.getElem?_eq_getElem (by omega) | exact rfl | exact Zb (by first | (simp; done) | (simp; omega))) F.lay3 rfl rfl rfl ?_ | refine Zm rfl rfl rfl (by first | assumption | exact Mem.get_of (by assumption) (by repeat first | assumption | refine Mem.le.trans (by assumption) ?_)) F.lay3 rfl rfl rfl ?_ | refine Zl rfl rfl rfl (by assumption) (by repeat first | exact Rem.here _ | exact Rem.two | apply Rem.skip | apply Rem.over) (by first | exact Zb (by omega) | exact List.getElem?_eq_getElem (by omega) | exact rfl | exact Zb (by first | (simp; done) | (simp; omega))) F.lay3 rfl rfl rfl ?_ | refine Zn rfl rfl rfl (by repeat first | exact List.Mem.head _ | refine List.Mem.tail _ ?_ | refine List.mem_append_right _ ?_) F.lay3 (by first | exact Zat (by first | omega | decide) | exact Zai (by first | omega | decide)) rfl ?_
      refine Zg ?_; refine Zd ?_; refine Zx ?_; refine Zj ?_; refine Za (l := [0, 1]) rfl ?_; refine Zas rfl rfl rfl rfl rfl rfl ?_; refine Zf rfl rfl rfl rfl ?_; refine Zg ?_; refine Zd ?_
      refine Zae rfl (fun hc3 => ?_) (fun hc3 => ?_)
      · first | replace hc3 := dT hc3 | replace hc3 := dF hc3 | replace hc3 := nT hc3 | replace hc3 := nF hc3 | skip
        try simp only [StepL06V.eta] at hc3
        first
        | (exfalso; omega)
        | (exfalso; simp [eqX] at hc3; done)
        | contradiction
        | skip
          refine Zj ?_; refine Za (l := [0, 1, 2, 3, 4, 5, 6]) rfl ?_; refine Zc rfl rfl rfl rfl ?_
          first | refine Zaf rfl rfl rfl F.foff55_1 rfl ?_ | refine Zv rfl rfl rfl (by first | exact ⟨_, _, rfl⟩ | assumption | exact SlM.plain (by assumption) (by first | (simp; done) | (simp; omega)) | exact RdS.plain (by assumption) (by first | (simp; done) | (simp; omega)) | exact OSl.plain (by assumption) (by first | (simp; done) | (simp; omega))) F.foff55_1 rfl ?_
          first | refine Zab rfl rfl rfl (by repeat first | exact List.Mem.head _ | refine List.Mem.tail _ ?_ | refine List.mem_append_right _ ?_) F.lay23 rfl rfl rfl ?_ | refine Zp rfl rfl rfl (by first | assumption | exact SlM.mono (by assumption) (by assumption)) (by first | exact Zb (by omega) | exact List.getElem?_eq_getElem (by omega) | exact rfl | exact Zb (by first | (simp; done) | (simp; omega))) F.lay23 rfl rfl rfl ?_ | refine Zo rfl rfl rfl (by assumption) (by first | exact Zb (by omega) | exact List.getElem?_eq_getElem (by omega) | exact rfl | exact Zb (by first | (simp; done) | (simp; omega))) F.lay23 rfl rfl rfl ?_ | refine Zm rfl rfl rfl (by first | assumption | exact Mem.get_of (by assumption) (by repeat first | assumption | refine Mem.le.trans (by assumption) ?_)) F.lay23 rfl rfl rfl ?_ | refine Zl rfl rfl rfl (by assumption) (by repeat first | exact Rem.here _ | exact Rem.two | apply Rem.skip | apply Rem.over) (by first | exact Zb (by omega) | exact List.getElem?_eq_getElem (by omega) | exact rfl | exact Zb (by first | (simp; done) | (simp; omega))) F.lay23 rfl rfl rfl ?_ | refine Zn rfl rfl rfl (by repeat first | exact List.Mem.head _ | refine List.Mem.tail _ ?_ | refine List.mem_append_right _ ?_) F.lay23 (by first | exact Zat (by first | omega | decide) | exact Zai (by first | omega | decide)) rfl ?_
          refine X_fs rfl rfl F.ok23 rfl (bNew_ok _ _) rfl ?_
          rintro _ rfl
          refine Zal rfl rfl F.elem25 F.zero30 rfl rfl (.cons rfl (parts_if (OE.form (newE_ok M1 _))) .nil) rfl rfl (by simp only [List.map_cons, List.map_nil] <;> rfl) rfl ?_; intro b42 hob42
          refine Zbi (m := 1000000) rfl rfl rfl rfl rfl F.elem25 F.zero30 (by first | rfl | exact Zbf rfl) rfl (by first | assumption | exact OSl.nil) (by repeat first | exact Rem.here _ | exact Rem.two | apply Rem.skip | apply Rem.over) (Src.own hob42.lens (Zao (Zah (OE.one (newE_ok M1 _)) Zam)) rfl (by repeat first | exact List.Mem.head _ | refine List.Mem.tail _ ?_ | refine List.mem_append_right _ ?_)) (by first | omega | (simp; done) | (simp; omega)) (by decide) rfl ?_; intro v6 hs5 ho4; obtain ⟨adv6, cpv6, rfl⟩ := ho4.val
          skip
          refine Zf rfl rfl rfl rfl ?_; refine Zg ?_; refine Zd ?_; refine Za (l := [0, 1, 2, 3, 4, 5, 6]) rfl ?_; refine Zc rfl rfl rfl rfl ?_
          first | refine Zaf rfl rfl rfl F.foff55_1 rfl ?_ | refine Zv rfl rfl rfl (by first | exact ⟨_, _, rfl⟩ | assumption | exact SlM.plain (by assumption) (by first | (simp; done) | (simp; omega)) | exact RdS.plain (by assumption) (by first | (simp; done) | (simp; omega)) | exact OSl.plain (by assumption) (by first | (simp; done) | (simp; omega))) F.foff55_1 rfl ?_
          first | refine Zab rfl rfl rfl (by repeat first | exact List.Mem.head _ | refine List.Mem.tail _ ?_ | refine List.mem_append_right _ ?_) F.lay23 rfl rfl rfl ?_ | refine Zp rfl rfl rfl (by first | assumption | exact SlM.mono (by assumption) (by assumption)) (by first | exact Zb (by omega) | exact List.getElem?_eq_getElem (by omega) | exact rfl | exact Zb (by first | (simp; done) | (simp; omega))) F.lay23 rfl rfl rfl ?_ | refine Zo rfl rfl rfl (by assumption) (by first | exact Zb (by omega) | exact List.getElem?_eq_getElem (by omega) | exact rfl | exact Zb (by first | (simp; done) | (simp; omega))) F.lay23 rfl rfl rfl ?_ | refine Zm rfl rfl rfl (by first | assumption | exact Mem.get_of (by assumption) (by repeat first | assumption | refine Mem.le.trans (by assumption) ?_)) F.lay23 rfl rfl rfl ?_ | refine Zl rfl rfl rfl (by assumption) (by repeat first | exact Rem.here _ | exact Rem.two | apply Rem.skip | apply Rem.over) (by first | exact Zb (by omega) | exact List.getElem?_eq_getElem (by omega) | exact rfl | exact Zb (by first | (simp; done) | (simp; omega))) F.lay23 rfl rfl rfl ?_ | refine Zn rfl rfl rfl (by repeat first | exact List.Mem.head _ | refine List.Mem.tail _ ?_ | refine List.mem_append_right _ ?_) F.lay23 (by first | exact Zat (by first | omega | decide) | exact Zai (by first | omega | decide)) rfl ?_
          refine X_fs rfl rfl F.ok25 rfl (rNew_ok _ _) rfl ?_
          rintro _ rfl
          refine Zal rfl rfl F.elem26 F.zero32 rfl rfl (.cons rfl (by constructor) .nil) rfl rfl (by simp only [List.map_cons, List.map_nil] <;> rfl) rfl ?_; intro b7 hob8
          refine Zbi (m := 1000000) rfl rfl rfl rfl rfl F.elem26 F.zero32 (by first | rfl | exact Zbf rfl) rfl (by first | assumption | exact OSl.nil) (by repeat first | exact Rem.here _ | exact Rem.two | apply Rem.skip | apply Rem.over) (Src.own hob8.lens (by first | exact StepL06V.flat1 _ | exact StepL06V.flat1 ⟨_, _, _, _⟩ | exact TrR.flat1 _ | (refine Zao ?_; (repeat (first | exact Zam | refine Zaz ?_ | (refine Zah ?_ ?_; rfl))); done) | (refine Zao ?_; exact PeerV.flat _) | (simp [rowsCells, Segs.cells, Seg.cells, Value.oneCell']; done)) rfl (by repeat first | exact List.Mem.head _ | refine List.Mem.tail _ ?_ | refine List.mem_append_right _ ?_)) (by first | omega | (simp; done) | (simp; omega)) (by decide) rfl ?_; intro v11 hs10 ho9; obtain ⟨adv11, cpv11, rfl⟩ := ho9.val
          skip
          refine Zf rfl rfl rfl rfl ?_; refine Zg ?_; refine Zaw ?_; refine Zaw ?_; refine Zd ?_; refine Za (l := [0, 1, 2]) rfl ?_; refine Zc rfl rfl rfl rfl ?_; refine Zbe rfl rfl rfl rfl rfl (by first | exact Zak (by decide) (by omega) | exact Zr (by decide) (by omega) | exact Zu (by decide) (by omega) | exact Zs (by decide) (by omega) | exact Zz _ | exact Zaj _ | exact Zaa _ | exact rfl) rfl ?_; refine Zf rfl rfl rfl rfl ?_; refine Zg ?_; refine Zbc (a' := [(6, _), (4, _), (5, _)]) (k + 1) (hs5 ++ hs10) (.cons (k := 6) rfl (.cons (k := 4) rfl (.cons (k := 5) rfl (.cons (k := 3) rfl (.cons (k := 2) rfl (.cons (k := 0) rfl (.nil))))))) (show M.le M1 from hm1) (fun w hw => by first | exact hw | exact hw.cnt (by intro zz; first | exact Nat.le_refl _ | (simp only [Zh, Ze, Zi, cat, List.append_eq, List.append_assoc, List.cons_append, List.nil_append, List.append_nil]; omega) | (simp only [Zh, Ze, Zi, cat, List.append_eq, List.append_assoc, List.cons_append, List.nil_append, List.append_nil, StepL06V.segs]; omega))) ?_ ?_
          · refine ⟨es ++ [newO s_l[k].code], ws ++ [newE s_l[k].code], ts ++ [newT s_l[k].code], _, _, hs5, hs10, hle1, rfl, by omega, rfl, ?_, ?_, he.app (OEL.one (show OE M1 (newO s_l[k].code) (newE s_l[k].code) from newE_ok M1 _)), ht.app (TOL.one (show TO M1 (newO s_l[k].code) (newT s_l[k].code) from newT_ok M1 _)), okS_app hok (okS_one (okO_new (hsc9 (by omega)).2.1 (hsc9 (by omega)).2.2)), ?_, ?_⟩
            · rw [List.map_append]; exact ho4
            · rw [List.map_append]; exact ho9
            · have h9 := hso9 (by omega); have h8 := wtS_app es [newO s_l[k].code]; have h7 := wt_new s_l[k].code; simp only [wtS, wtO] at h8 h7 ⊢; omega
            · simp only [List.length_append, List.length_singleton]; omega
          · omega
      · first | replace hc3 := dT hc3 | replace hc3 := dF hc3 | replace hc3 := nT hc3 | replace hc3 := nF hc3 | skip
        try simp only [StepL06V.eta] at hc3
        first
        | (exfalso; omega)
        | (exfalso; simp [eqX] at hc3; done)
        | contradiction
        | skip
          refine Zj ?_; refine Za (l := [0, 1]) rfl ?_; refine Zas rfl rfl rfl rfl rfl rfl ?_; refine Zf rfl rfl rfl rfl ?_; refine Zg ?_; refine Zd ?_
          refine Zae rfl (fun hc12 => ?_) (fun hc12 => ?_)
          · first | replace hc12 := dT hc12 | replace hc12 := dF hc12 | replace hc12 := nT hc12 | replace hc12 := nF hc12 | skip
            try simp only [StepL06V.eta] at hc12
            first
            | (exfalso; omega)
            | (exfalso; simp [eqX] at hc12; done)
            | contradiction
            | skip
              refine Zj ?_; refine Za (l := [0, 1]) rfl ?_; refine Zc rfl rfl rfl rfl ?_; refine Zas rfl rfl rfl rfl rfl rfl ?_; refine Zg ?_; refine Zd ?_
              refine Zae rfl (fun hc13 => ?_) (fun hc13 => ?_)
              · first | replace hc13 := dT hc13 | replace hc13 := dF hc13 | replace hc13 := nT hc13 | replace hc13 := nF hc13 | skip
                try simp only [StepL06V.eta] at hc13
                first
                | (exfalso; omega)
                | (exfalso; simp [eqX] at hc13; done)
                | contradiction
                | skip
                  refine Zj ?_
                  obtain ⟨j9, hj9⟩ : ∃ j : Nat, (ws.length : Int) - 1 = (j : Int) := ⟨((ws.length : Int) - 1).toNat, by omega⟩
                  rw [hj9]
                  obtain ⟨b4, rfl⟩ := ho4.addr (by omega)
                  obtain ⟨b5, rfl⟩ := ho5.addr (by omega)
                  refine C_region_any (l := [0, 1, 2, 3, 4, 5, 6, 7, 8, 9, 10]) #[0, 0, 0, 4, 0, 0, 48, 112, 252, 511, 1023] _ rfl (by kernel_rfl) (by kernel_rfl) St.drawn (fun _ h => h) ?_; refine Zc rfl rfl rfl rfl ?_; refine Zc rfl rfl rfl rfl ?_
                  first | refine Zaf rfl rfl rfl F.foff55_2 rfl ?_ | refine Zv rfl rfl rfl (by first | exact ⟨_, _, rfl⟩ | assumption | exact SlM.plain (by assumption) (by first | (simp; done) | (simp; omega)) | exact RdS.plain (by assumption) (by first | (simp; done) | (simp; omega)) | exact OSl.plain (by assumption) (by first | (simp; done) | (simp; omega))) F.foff55_2 rfl ?_
                  first | refine Zab rfl rfl rfl (by repeat first | exact List.Mem.head _ | refine List.Mem.tail _ ?_ | refine List.mem_append_right _ ?_) F.lay9 rfl rfl rfl ?_ | refine Zp rfl rfl rfl (by first | assumption | exact SlM.mono (by assumption) (by assumption)) (by first | exact Zb (by omega) | exact List.getElem?_eq_getElem (by omega) | exact rfl | exact Zb (by first | (simp; done) | (simp; omega))) F.lay9 rfl rfl rfl ?_ | refine Zo rfl rfl rfl (by assumption) (by first | exact Zb (by omega) | exact List.getElem?_eq_getElem (by omega) | exact rfl | exact Zb (by first | (simp; done) | (simp; omega))) F.lay9 rfl rfl rfl ?_ | refine Zm rfl rfl rfl (by first | assumption | exact Mem.get_of (by assumption) (by repeat first | assumption | refine Mem.le.trans (by assumption) ?_)) F.lay9 rfl rfl rfl ?_ | refine Zl rfl rfl rfl (by assumption) (by repeat first | exact Rem.here _ | exact Rem.two | apply Rem.skip | apply Rem.over) (by first | exact Zb (by omega) | exact List.getElem?_eq_getElem (by omega) | exact rfl | exact Zb (by first | (simp; done) | (simp; omega))) F.lay9 rfl rfl rfl ?_ | refine Zn rfl rfl rfl (by repeat first | exact List.Mem.head _ | refine List.Mem.tail _ ?_ | refine List.mem_append_right _ ?_) F.lay9 (by first | exact Zat (by first | omega | decide) | exact Zai (by first | omega | decide)) rfl ?_
                  refine Zc rfl rfl rfl rfl ?_; refine Zc rfl rfl rfl rfl ?_; refine Zq rfl rfl rfl rfl F.elem25 (by first | rfl | exact (Int.toNat_of_nonneg (by omega)).symm) (by first | omega | (simp; done) | (simp; omega)) (by first | exact ⟨_, _, rfl⟩ | assumption | exact SlM.plain (by assumption) (by first | (simp; done) | (simp; omega)) | exact RdS.plain (by assumption) (by first | (simp; done) | (simp; omega)) | exact OSl.plain (by assumption) (by first | (simp; done) | (simp; omega))) rfl ?_
                  first | refine Zab rfl rfl rfl (by repeat first | exact List.Mem.head _ | refine List.Mem.tail _ ?_ | refine List.mem_append_right _ ?_) F.lay30 rfl rfl rfl ?_ | refine Zp rfl rfl rfl (by first | assumption | exact SlM.mono (by assumption) (by assumption)) (by first | exact Zb (by omega) | exact List.getElem?_eq_getElem (by omega) | exact rfl | exact Zb (by first | (simp; done) | (simp; omega))) F.lay30 rfl rfl rfl ?_ | refine Zo rfl rfl rfl (by assumption) (by first | exact Zb (by omega) | exact List.getElem?_eq_getElem (by omega) | exact rfl | exact Zb (by first | (simp; done) | (simp; omega))) F.lay30 rfl rfl rfl ?_ | refine Zm rfl rfl rfl (by first | assumption | exact Mem.get_of (by assumption) (by repeat first | assumption | refine Mem.le.trans (by assumption) ?_)) F.lay30 rfl rfl rfl ?_ | refine Zl rfl rfl rfl (by assumption) (by repeat first | exact Rem.here _ | exact Rem.two | apply Rem.skip | apply Rem.over) (by first | exact Zb (by omega) | exact List.getElem?_eq_getElem (by omega) | exact rfl | exact Zb (by first | (simp; done) | (simp; omega))) F.lay30 rfl rfl rfl ?_ | refine Zn rfl rfl rfl (by repeat first | exact List.Mem.head _ | refine List.Mem.tail _ ?_ | refine List.mem_append_right _ ?_) F.lay30 (by first | exact Zat (by first | omega | decide) | exact Zai (by first | omega | decide)) rfl ?_
                  refine X_fn rfl rfl F.ok21 rfl (bWrap_o M1 _ _ _ (he.at_ j9 (by omega) (by omega))) rfl ?_
                  rintro v9 M2 hM2 hv9
                  refine Zq rfl rfl rfl rfl F.elem25 (by first | rfl | exact (Int.toNat_of_nonneg (by omega)).symm) (by first | omega | (simp; done) | (simp; omega)) (by first | exact ⟨_, _, rfl⟩ | assumption | exact SlM.plain (by assumption) (by first | (simp; done) | (simp; omega)) | exact RdS.plain (by assumption) (by first | (simp; done) | (simp; omega)) | exact OSl.plain (by assumption) (by first | (simp; done) | (simp; omega))) rfl ?_
                  refine X_storeO (b := b4) (j := j9) rfl rfl rfl rfl (parts_if (OE.form hv9)) (Zah (OE.one hv9) Zam) F.lay30 rfl rfl ho4 (by repeat first | exact Rem.here _ | exact Rem.two | apply Rem.skip | apply Rem.over) (by omega) ?_; intro hs4 ho42
                  replace ho42 : OSl 30 1 (.slice (some ⟨b4, 0, none⟩) ws.length cp4) hs4 ((ws.set j9 v9).map (fun u => ([.one u] : Segs))) := by rw [List.map_set]; exact ho42.aZ (by simp)
                  refine Zg ?_; refine Zd ?_; refine C_region_any (l := [0, 1, 2, 3, 4, 5, 6, 7, 8, 9, 10]) #[0, 0, 0, 4, 0, 0, 48, 112, 252, 511, 1023] _ rfl (by kernel_rfl) (by kernel_rfl) St.drawn (fun _ h => h) ?_; refine Zc rfl rfl rfl rfl ?_; refine Zc rfl rfl rfl rfl ?_
                  first | refine Zaf rfl rfl rfl F.foff55_2 rfl ?_ | refine Zv rfl rfl rfl (by first | exact ⟨_, _, rfl⟩ | assumption | exact SlM.plain (by assumption) (by first | (simp; done) | (simp; omega)) | exact RdS.plain (by assumption) (by first | (simp; done) | (simp; omega)) | exact OSl.plain (by assumption) (by first | (simp; done) | (simp; omega))) F.foff55_2 rfl ?_
                  first | refine Zab rfl rfl rfl (by repeat first | exact List.Mem.head _ | refine List.Mem.tail _ ?_ | refine List.mem_append_right _ ?_) F.lay9 rfl rfl rfl ?_ | refine Zp rfl rfl rfl (by first | assumption | exact SlM.mono (by assumption) (by assumption)) (by first | exact Zb (by omega) | exact List.getElem?_eq_getElem (by omega) | exact rfl | exact Zb (by first | (simp; done) | (simp; omega))) F.lay9 rfl rfl rfl ?_ | refine Zo rfl rfl rfl (by assumption) (by first | exact Zb (by omega) | exact List.getElem?_eq_getElem (by omega) | exact rfl | exact Zb (by first | (simp; done) | (simp; omega))) F.lay9 rfl rfl rfl ?_ | refine Zm rfl rfl rfl (by first | assumption | exact Mem.get_of (by assumption) (by repeat first | assumption | refine Mem.le.trans (by assumption) ?_)) F.lay9 rfl rfl rfl ?_ | refine Zl rfl rfl rfl (by assumption) (by repeat first | exact Rem.here _ | exact Rem.two | apply Rem.skip | apply Rem.over) (by first | exact Zb (by omega) | exact List.getElem?_eq_getElem (by omega) | exact rfl | exact Zb (by first | (simp; done) | (simp; omega))) F.lay9 rfl rfl rfl ?_ | refine Zn rfl rfl rfl (by repeat first | exact List.Mem.head _ | refine List.Mem.tail _ ?_ | refine List.mem_append_right _ ?_) F.lay9 (by first | exact Zat (by first | omega | decide) | exact Zai (by first | omega | decide)) rfl ?_
                  refine Zc rfl rfl rfl rfl ?_; refine Zc rfl rfl rfl rfl ?_; refine Zq rfl rfl rfl rfl F.elem26 (by first | rfl | exact (Int.toNat_of_nonneg (by omega)).symm) (by first | omega | (simp; done) | (simp; omega)) (by first | exact ⟨_, _, rfl⟩ | assumption | exact SlM.plain (by assumption) (by first | (simp; done) | (simp; omega)) | exact RdS.plain (by assumption) (by first | (simp; done) | (simp; omega)) | exact OSl.plain (by assumption) (by first | (simp; done) | (simp; omega))) rfl ?_
                  first | refine Zab rfl rfl rfl (by repeat first | exact List.Mem.head _ | refine List.Mem.tail _ ?_ | refine List.mem_append_right _ ?_) F.lay32 rfl rfl rfl ?_ | refine Zp rfl rfl rfl (by first | assumption | exact SlM.mono (by assumption) (by assumption)) (by first | exact Zb (by omega) | exact List.getElem?_eq_getElem (by omega) | exact rfl | exact Zb (by first | (simp; done) | (simp; omega))) F.lay32 rfl rfl rfl ?_ | refine Zo rfl rfl rfl (by assumption) (by first | exact Zb (by omega) | exact List.getElem?_eq_getElem (by omega) | exact rfl | exact Zb (by first | (simp; done) | (simp; omega))) F.lay32 rfl rfl rfl ?_ | refine Zm rfl rfl rfl (by first | assumption | exact Mem.get_of (by assumption) (by repeat first | assumption | refine Mem.le.trans (by assumption) ?_)) F.lay32 rfl rfl rfl ?_ | refine Zl rfl rfl rfl (by assumption) (by repeat first | exact Rem.here _ | exact Rem.two | apply Rem.skip | apply Rem.over) (by first | exact Zb (by omega) | exact List.getElem?_eq_getElem (by omega) | exact rfl | exact Zb (by first | (simp; done) | (simp; omega))) F.lay32 rfl rfl rfl ?_
                  refine X_fn rfl rfl F.ok26 rfl (rWrap_ok M2 _ _ ts[j9] ((ht.at_ j9 (by omega) (by omega)).mono hM2)) rfl ?_
                  rintro _ M3 hM3 ⟨t9, rfl, ht9⟩
                  refine Zq rfl rfl rfl rfl F.elem26 (by first | rfl | exact (Int.toNat_of_nonneg (by omega)).symm) (by first | omega | (simp; done) | (simp; omega)) (by first | exact ⟨_, _, rfl⟩ | assumption | exact SlM.plain (by assumption) (by first | (simp; done) | (simp; omega)) | exact RdS.plain (by assumption) (by first | (simp; done) | (simp; omega)) | exact OSl.plain (by assumption) (by first | (simp; done) | (simp; omega))) rfl ?_
                  refine X_storeO (b := b5) (j := j9) rfl rfl rfl rfl (by constructor) (TrR.flat t9) F.lay32 (TrR.len t9) rfl ho5 (by repeat first | exact Rem.here _ | exact Rem.two | apply Rem.skip | apply Rem.over) (by omega) ?_; intro hs5 ho52
                  replace ho52 : OSl 32 4 (.slice (some ⟨b5, 0, none⟩) ts.length cp5) hs5 ((ts.set j9 t9).map TrR.segs) := by rw [List.map_set]; exact ho52.aZ (by simp)
                  refine Zg ?_; refine Zaw ?_; refine Zaw ?_; refine Zd ?_; refine Za (l := [0, 1, 2]) rfl ?_; refine Zc rfl rfl rfl rfl ?_; refine Zbe rfl rfl rfl rfl rfl (by first | exact Zak (by decide) (by omega) | exact Zr (by decide) (by omega) | exact Zu (by decide) (by omega) | exact Zs (by decide) (by omega) | exact Zz _ | exact Zaj _ | exact Zaa _ | exact rfl) rfl ?_; refine Zf rfl rfl rfl rfl ?_; refine Zg ?_; refine Zbc (a' := [(6, _), (4, _), (5, _)]) (k + 1) (hs4 ++ hs5) (.cons (k := 6) rfl (.cons (k := 4) rfl (.cons (k := 5) rfl (.cons (k := 3) rfl (.cons (k := 2) rfl (.cons (k := 0) rfl (.nil))))))) (show M.le M3 from hm1.trans (hM2.trans hM3)) (fun w hw => by first | exact hw | exact hw.cnt (by intro zz; first | exact Nat.le_refl _ | (simp only [Zh, Ze, Zi, cat, List.append_eq, List.append_assoc, List.cons_append, List.nil_append, List.append_nil]; omega) | (simp only [Zh, Ze, Zi, cat, List.append_eq, List.append_assoc, List.cons_append, List.nil_append, List.append_nil, StepL06V.segs]; omega))) ?_ ?_
                  · refine ⟨es.set j9 (wrapO s_l[k].op es[j9]), ws.set j9 v9, ts.set j9 t9, _, _, hs4, hs5, hle1.trans (hM2.trans hM3), rfl, by omega, rfl, ho42, ho52, ((he.mono hM2).set hv9).mono hM3, ((ht.mono hM2).mono hM3).set ht9, okS_set hok (okO_wrap (hok _ (List.getElem_mem _))), ?_, ?_⟩
                    · have h9 := hso9 (by omega); have h8 := wtS_set (l := es) (k := j9) (o := wrapO s_l[k].op es[j9]) (by omega); have h7 := wt_wrap s_l[k].op es[j9]; omega
                    · rw [List.length_set]; omega
                  · omega
              · first | replace hc13 := dT hc13 | replace hc13 := dF hc13 | replace hc13 := nT hc13 | replace hc13 := nF hc13 | skip
                try simp only [StepL06V.eta] at hc13
                first
                | (exfalso; omega)
                | (exfalso; simp [eqX] at hc13; done)
                | contradiction
                | skip
                  refine Zy ?_; refine Zaw ?_; refine Zaw ?_; refine Zd ?_; refine Za (l := [0, 1, 2]) rfl ?_; refine Zc rfl rfl rfl rfl ?_; refine Zbe rfl rfl rfl rfl rfl (by first | exact Zak (by decide) (by omega) | exact Zr (by decide) (by omega) | exact Zu (by decide) (by omega) | exact Zs (by decide) (by omega) | exact Zz _ | exact Zaj _ | exact Zaa _ | exact rfl) rfl ?_; refine Zf rfl rfl rfl rfl ?_; refine Zg ?_; refine Zbc (a' := [(6, _), (4, _), (5, _)]) (k + 1) (hl ++ hm) (.cons (k := 6) rfl (.cons (k := 4) rfl (.cons (k := 5) rfl (.cons (k := 3) rfl (.cons (k := 2) rfl (.cons (k := 0) rfl (.nil))))))) (show M.le M1 from hm1) (fun w hw => by first | exact hw | exact hw.cnt (by intro zz; first | exact Nat.le_refl _ | (simp only [Zh, Ze, Zi, cat, List.append_eq, List.append_assoc, List.cons_append, List.nil_append, List.append_nil]; omega) | (simp only [Zh, Ze, Zi, cat, List.append_eq, List.append_assoc, List.cons_append, List.nil_append, List.append_nil, StepL06V.segs]; omega))) ?_ ?_
                  · refine ⟨es, ws, ts, _, _, hl, hm, hle1, rfl, by omega, rfl, ho4, ho5, he, ht, hok, ?_, by omega⟩
                    have h9 := hso9 (by omega); omega
                  · omega
          · first | replace hc12 := dT hc12 | replace hc12 := dF hc12 | replace hc12 := nT hc12 | replace hc12 := nF hc12 | skip
            try simp only [StepL06V.eta] at hc12
            first
            | (exfalso; omega)
            | (exfalso; simp [eqX] at hc12; done)
            | contradiction
            | skip
              refine Zj ?_; refine Za (l := [0, 1]) rfl ?_; refine Zas rfl rfl rfl rfl rfl rfl ?_; refine Zf rfl rfl rfl rfl ?_; refine Zg ?_; refine Zd ?_
              refine Zae rfl (fun hc14 => ?_) (fun hc14 => ?_)
              · first | replace hc14 := dT hc14 | replace hc14 := dF hc14 | replace hc14 := nT hc14 | replace hc14 := nF hc14 | skip
                try simp only [StepL06V.eta] at hc14
                first
                | (exfalso; omega)
                | (exfalso; simp [eqX] at hc14; done)
                | contradiction
                | skip
                  refine Zj ?_; refine Za (l := [0, 1, 2, 3, 4, 5, 6, 7, 8, 9]) rfl ?_
                  first | refine Zaf rfl rfl rfl F.foff55_3 rfl ?_ | refine Zv rfl rfl rfl (by first | exact ⟨_, _, rfl⟩ | assumption | exact SlM.plain (by assumption) (by first | (simp; done) | (simp; omega)) | exact RdS.plain (by assumption) (by first | (simp; done) | (simp; omega)) | exact OSl.plain (by assumption) (by first | (simp; done) | (simp; omega))) F.foff55_3 rfl ?_
                  first | refine Zab rfl rfl rfl (by repeat first | exact List.Mem.head _ | refine List.Mem.tail _ ?_ | refine List.mem_append_right _ ?_) F.lay3 rfl rfl rfl ?_ | refine Zp rfl rfl rfl (by first | assumption | exact SlM.mono (by assumption) (by assumption)) (by first | exact Zb (by omega) | exact List.getElem?_eq_getElem (by omega) | exact rfl | exact Zb (by first | (simp; done) | (simp; omega))) F.lay3 rfl rfl rfl ?_ | refine Zo rfl rfl rfl (by assumption) (by first | exact Zb (by omega) | exact List.getElem?_eq_getElem (by omega) | exact rfl | exact Zb (by first | (simp; done) | (simp; omega))) F.lay3 rfl rfl rfl ?_ | refine Zm rfl rfl rfl (by first | assumption | exact Mem.get_of (by assumption) (by repeat first | assumption | refine Mem.le.trans (by assumption) ?_)) F.lay3 rfl rfl rfl ?_ | refine Zl rfl rfl rfl (by assumption) (by repeat first | exact Rem.here _ | exact Rem.two | apply Rem.skip | apply Rem.over) (by first | exact Zb (by omega) | exact List.getElem?_eq_getElem (by omega) | exact rfl | exact Zb (by first | (simp; done) | (simp; omega))) F.lay3 rfl rfl rfl ?_ | refine Zn rfl rfl rfl (by repeat first | exact List.Mem.head _ | refine List.Mem.tail _ ?_ | refine List.mem_append_right _ ?_) F.lay3 (by first | exact Zat (by first | omega | decide) | exact Zai (by first | omega | decide)) rfl ?_
                  refine Zas rfl rfl rfl rfl rfl rfl ?_; refine Zc rfl rfl rfl rfl ?_
                  refine Zbn 79 rfl (fun hc15 => ?_) (fun hc15 => ?_)
                  · first | replace hc15 := dT hc15 | replace hc15 := dF hc15 | replace hc15 := nT hc15 | replace hc15 := nF hc15 | skip
                    try simp only [StepL06V.eta] at hc15
                    first
                    | (exfalso; omega)
                    | (exfalso; simp [eqX] at hc15; done)
                    | contradiction
                    | skip
                      first | refine Zaf rfl rfl rfl F.foff55_3 rfl ?_ | refine Zv rfl rfl rfl (by first | exact ⟨_, _, rfl⟩ | assumption | exact SlM.plain (by assumption) (by first | (simp; done) | (simp; omega)) | exact RdS.plain (by assumption) (by first | (simp; done) | (simp; omega)) | exact OSl.plain (by assumption) (by first | (simp; done) | (simp; omega))) F.foff55_3 rfl ?_
                      first | refine Zab rfl rfl rfl (by repeat first | exact List.Mem.head _ | refine List.Mem.tail _ ?_ | refine List.mem_append_right _ ?_) F.lay3 rfl rfl rfl ?_ | refine Zp rfl rfl rfl (by first | assumption | exact SlM.mono (by assumption) (by assumption)) (by first | exact Zb (by omega) | exact List.getElem?_eq_getElem (by omega) | exact rfl | exact Zb (by first | (simp; done) | (simp; omega))) F.lay3 rfl rfl rfl ?_ | refine Zo rfl rfl rfl (by assumption) (by first | exact Zb (by omega) | exact List.getElem?_eq_getElem (by omega) | exact rfl | exact Zb (by first | (simp; done) | (simp; omega))) F.lay3 rfl rfl rfl ?_ | refine Zm rfl rfl rfl (by first | assumption | exact Mem.get_of (by assumption) (by repeat first | assumption | refine Mem.le.trans (by assumption) ?_)) F.lay3 rfl rfl rfl ?_ | refine Zl rfl rfl rfl (by assumption) (by repeat first | exact Rem.here _ | exact Rem.two | apply Rem.skip | apply Rem.over) (by first | exact Zb (by omega) | exact List.getElem?_eq_getElem (by omega) | exact rfl | exact Zb (by first | (simp; done) | (simp; omega))) F.lay3 rfl rfl rfl ?_ | refine Zn rfl rfl rfl (by repeat first | exact List.Mem.head _ | refine List.Mem.tail _ ?_ | refine List.mem_append_right _ ?_) F.lay3 (by first | exact Zat (by first | omega | decide) | exact Zai (by first | omega | decide)) rfl ?_
                      refine Zc rfl rfl rfl rfl ?_; refine Zan rfl rfl rfl rfl F.elem25 rfl ?_; refine Zas rfl rfl rfl rfl rfl rfl ?_; refine Zag rfl rfl rfl rfl rfl ?_; refine Zg ?_; refine Zd ?_
                      refine Zae rfl (fun hc16 => ?_) (fun hc16 => ?_)
                      · first | replace hc16 := dT hc16 | replace hc16 := dF hc16 | replace hc16 := nT hc16 | replace hc16 := nF hc16 | skip
                        try simp only [StepL06V.eta] at hc16
                        first
                        | (exfalso; omega)
                        | (exfalso; simp [eqX] at hc16; done)
                        | contradiction
                        | skip
                          refine Zj ?_
                          refine C_frz ho4 (by repeat first | exact Rem.here _ | exact Rem.two | apply Rem.skip | apply Rem.over) (fun M2 hM2 k4 => ?_)
                          refine C_frz ho5 (by repeat first | exact Rem.here _ | exact Rem.two | apply Rem.skip | apply Rem.over) (fun M3 hM3 k5 => ?_)
                          have hcap4 : ws.length ≤ cp4 := k4.h3
                          have hcap5 : ts.length ≤ cp5 := k5.h3
                          refine Za (l := [0, 1, 2, 3, 4, 5]) rfl ?_; refine Zc rfl rfl rfl rfl ?_; refine Zan rfl rfl rfl rfl F.elem25 rfl ?_
                          first | refine Zaf rfl rfl rfl F.foff55_3 rfl ?_ | refine Zv rfl rfl rfl (by first | exact ⟨_, _, rfl⟩ | assumption | exact SlM.plain (by assumption) (by first | (simp; done) | (simp; omega)) | exact RdS.plain (by assumption) (by first | (simp; done) | (simp; omega)) | exact OSl.plain (by assumption) (by first | (simp; done) | (simp; omega))) F.foff55_3 rfl ?_
                          first | refine Zab rfl rfl rfl (by repeat first | exact List.Mem.head _ | refine List.Mem.tail _ ?_ | refine List.mem_append_right _ ?_) F.lay3 rfl rfl rfl ?_ | refine Zp rfl rfl rfl (by first | assumption | exact SlM.mono (by assumption) (by assumption)) (by first | exact Zb (by omega) | exact List.getElem?_eq_getElem (by omega) | exact rfl | exact Zb (by first | (simp; done) | (simp; omega))) F.lay3 rfl rfl rfl ?_ | refine Zo rfl rfl rfl (by assumption) (by first | exact Zb (by omega) | exact List.getElem?_eq_getElem (by omega) | exact rfl | exact Zb (by first | (simp; done) | (simp; omega))) F.lay3 rfl rfl rfl ?_ | refine Zm rfl rfl rfl (by first | assumption | exact Mem.get_of (by assumption) (by repeat first | assumption | refine Mem.le.trans (by assumption) ?_)) F.lay3 rfl rfl rfl ?_ | refine Zl rfl rfl rfl (by assumption) (by repeat first | exact Rem.here _ | exact Rem.two | apply Rem.skip | apply Rem.over) (by first | exact Zb (by omega) | exact List.getElem?_eq_getElem (by omega) | exact rfl | exact Zb (by first | (simp; done) | (simp; omega))) F.lay3 rfl rfl rfl ?_ | refine Zn rfl rfl rfl (by repeat first | exact List.Mem.head _ | refine List.Mem.tail _ ?_ | refine List.mem_append_right _ ?_) F.lay3 (by first | exact Zat (by first | omega | decide) | exact Zai (by first | omega | decide)) rfl ?_
                          refine Zbe rfl rfl rfl rfl rfl (by first | exact Zak (by decide) (by omega) | exact Zr (by decide) (by omega) | exact Zu (by decide) (by omega) | exact Zs (by decide) (by omega) | exact Zz _ | exact Zaj _ | exact Zaa _ | exact rfl) rfl ?_
                          obtain ⟨j9, hj9, hjl⟩ : ∃ j : Nat, (ws.length : Int) - s_l[k].n = (j : Int) ∧ j ≤ ws.length := ⟨((ws.length : Int) - s_l[k].n).toNat, by omega, by omega⟩
                          rw [hj9]
                          refine Zf rfl rfl rfl rfl ?_; refine Zg ?_; refine Zd ?_; refine Zj ?_; refine Za (l := [0, 1, 2, 3, 4]) rfl ?_; refine Zc rfl rfl rfl rfl ?_; refine Zc rfl rfl rfl rfl ?_; refine X_slice rfl rfl rfl (.some (k := j9) rfl rfl) .none .none F.elem25 (by simp) (by simp; omega) (by simp; try omega) (by simp) (show _ = Sl.val ⟨shiftA ad4 cp4 j9 1, cp4 - j9, ws.drop j9⟩ by simp [pieceV, Sl.val, shiftA]) rfl ?_; refine X_fn rfl rfl F.ok22 rfl (bJoin_ok M3 ⟨_, _, ws.drop j9⟩ (es.drop j9) ((k4.mono hM3).drop j9 (by omega)) (((he.mono hM2).mono hM3).drop j9) (by simp only [List.length_drop]; omega)) rfl ?_
                          rintro v9 M4 hM4 hv9
                          refine Zf rfl rfl rfl rfl ?_; refine Zg ?_; refine Zd ?_; refine Zj ?_; refine Za (l := [0, 1, 2, 3, 4, 5]) rfl ?_; refine Zc rfl rfl rfl rfl ?_; refine Zc rfl rfl rfl rfl ?_; refine X_slice rfl rfl rfl (.some (k := j9) rfl rfl) .none .none F.elem26 (by simp) (by simp; omega) (by simp; try omega) (by simp) (show _ = Sl.val ⟨shiftA ad5 cp5 j9 4, cp5 - j9, ts.drop j9⟩ by simp [pieceV, Sl.val, shiftA]) rfl ?_; refine X_fn rfl rfl F.ok27 rfl (rJoin_ok M4 ⟨_, _, ts.drop j9⟩ (es.drop j9) ((k5.mono hM4).drop j9 (by omega)) ((((ht.mono hM2).mono hM3).mono hM4).drop j9) (by simp only [List.length_drop]; omega)) rfl ?_
                          rintro _ M5 hM5 ⟨t9, rfl, ht9⟩
                          refine X_alloc rfl rfl F.zero32 (by constructor) rfl ?_; intro b17
                          refine Zbm rfl rfl rfl rfl (by constructor) (by first | ((try simp only [cat, List.cons_append, List.nil_append, List.append_nil]); (repeat (first | exact Zam | refine Zaz ?_ | (refine Zah ?_ ?_; rfl))); done) | exact StepL06V.flat _ | exact StepL06V.flat ⟨_, _, _, _⟩ | exact TrR.flat _ | (simp [flat, cat, Segs.cells, Seg.cells, Value.oneCell']; done)) (by repeat first | exact Upd.head | apply Upd.tail | apply Upd.over) F.lay32 rfl rfl ?_; refine Zg ?_; refine Zd ?_; refine Zj ?_; refine Za (l := [0]) rfl ?_; refine Zf rfl rfl rfl rfl ?_; refine Zg ?_; refine Zd ?_; refine Zj ?_; refine Za (l := [0, 1, 2, 3, 4, 5]) rfl ?_; refine Zc rfl rfl rfl rfl ?_; refine Zc rfl rfl rfl rfl ?_; refine Zc rfl rfl rfl rfl ?_; refine X_slice rfl rfl rfl .none (.some (k := j9) rfl rfl) .none F.elem25 (by simp) (by simp; omega) (by simp; try omega) (by simp) (show _ = Sl.val ⟨ad4, cp4, ws.take j9⟩ from pieceV_head.trans (by show Value.slice _ _ _ = Value.slice _ _ _; rw [List.length_take, Nat.min_eq_left (by omega)]; rfl)) rfl ?_
                          refine X_appendKM (m := 1000) rfl rfl rfl rfl rfl F.elem25 F.zero30 (by first | rfl | exact Zbf rfl) rfl OSl.nil (by repeat first | exact Rem.here _ | exact Rem.two | apply Rem.skip | apply Rem.over) ((((k4.mono hM3).mono (hM4.trans hM5)).take j9 (by omega)).h1) (fun x hx => Zah (he.ones (List.mem_of_mem_take hx)) Zam) (by simp only [List.length_nil, List.length_take]; omega) (by decide) rfl ?_; intro va103 hsa103 hoa103; obtain ⟨ada103, cpa103, rfl⟩ := hoa103.val
                          refine Zf rfl rfl rfl rfl ?_; refine Zg ?_; refine Zd ?_; refine Zj ?_; refine Za (l := [0, 1, 2, 3, 4]) rfl ?_; refine Zc rfl rfl rfl rfl ?_; refine Zc rfl rfl rfl rfl ?_
                          refine Zal rfl rfl F.elem25 F.zero30 rfl rfl (.cons rfl (parts_if (OE.form hv9)) .nil) rfl rfl (by simp only [List.map_cons, List.map_nil] <;> rfl) rfl ?_; intro b106 hob106
                          refine Zbi (m := 1000) rfl rfl rfl rfl rfl F.elem25 F.zero30 (by first | rfl | exact Zbf rfl) rfl hoa103 (by repeat first | exact Rem.here _ | exact Rem.two | apply Rem.skip | apply Rem.over) (Src.own hob106.lens (Zao (Zah (OE.one hv9) Zam)) rfl (by repeat first | exact List.Mem.head _ | refine List.Mem.tail _ ?_ | refine List.mem_append_right _ ?_)) (by simp only [List.length_append, List.length_map, List.length_take, List.length_nil, List.length_singleton]; omega) (by decide) rfl ?_; intro v107 hs107 ho107; obtain ⟨ad107, cp107, rfl⟩ := ho107.val
                          skip
                          refine Zf rfl rfl rfl rfl ?_; refine Zg ?_; refine Zd ?_; refine Zj ?_; refine Za (l := [0, 1]) rfl ?_; refine Zc rfl rfl rfl rfl ?_; refine Zf rfl rfl rfl rfl ?_; refine Zg ?_; refine Zd ?_; refine Zj ?_; refine Za (l := [0]) rfl ?_; refine Zf rfl rfl rfl rfl ?_; refine Zg ?_; refine Zd ?_; refine Zj ?_; refine Za (l := [0, 1, 2, 3, 4, 5]) rfl ?_; refine Zc rfl rfl rfl rfl ?_; refine Zc rfl rfl rfl rfl ?_; refine Zc rfl rfl rfl rfl ?_; refine X_slice rfl rfl rfl .none (.some (k := j9) rfl rfl) .none F.elem26 (by simp) (by simp; omega) (by simp; try omega) (by simp) (show _ = Sl.val ⟨ad5, cp5, ts.take j9⟩ from pieceV_head.trans (by show Value.slice _ _ _ = Value.slice _ _ _; rw [List.length_take, Nat.min_eq_left (by omega)]; rfl)) rfl ?_
                          refine X_appendKM (m := 1000) rfl rfl rfl rfl rfl F.elem26 F.zero32 (by first | rfl | exact Zbf rfl) rfl OSl.nil (by repeat first | exact Rem.here _ | exact Rem.two | apply Rem.skip | apply Rem.over) (((k5.mono (hM4.trans hM5)).take j9 (by omega)).h1) (fun x _ => TrR.flat x) (by simp only [List.length_nil, List.length_take]; omega) (by decide) rfl ?_; intro va113 hsa113 hoa113; obtain ⟨ada113, cpa113, rfl⟩ := hoa113.val
                          refine Zf rfl rfl rfl rfl ?_; refine Zg ?_; refine Zd ?_; refine Zj ?_; refine Za (l := [0, 1, 2, 3, 4]) rfl ?_; refine Zc rfl rfl rfl rfl ?_
                          first | refine Zab rfl rfl rfl (by repeat first | exact List.Mem.head _ | refine List.Mem.tail _ ?_ | refine List.mem_append_right _ ?_) F.lay32 rfl rfl rfl ?_ | refine Zp rfl rfl rfl (by first | assumption | exact SlM.mono (by assumption) (by assumption)) (by first | exact Zb (by omega) | exact List.getElem?_eq_getElem (by omega) | exact rfl | exact Zb (by first | (simp; done) | (simp; omega))) F.lay32 rfl rfl rfl ?_ | refine Zo rfl rfl rfl (by assumption) (by first | exact Zb (by omega) | exact List.getElem?_eq_getElem (by omega) | exact rfl | exact Zb (by first | (simp; done) | (simp; omega))) F.lay32 rfl rfl rfl ?_ | refine Zm rfl rfl rfl (by first | assumption | exact Mem.get_of (by assumption) (by repeat first | assumption | refine Mem.le.trans (by assumption) ?_)) F.lay32 rfl rfl rfl ?_ | refine Zl rfl rfl rfl (by assumption) (by repeat first | exact Rem.here _ | exact Rem.two | apply Rem.skip | apply Rem.over) (by first | exact Zb (by omega) | exact List.getElem?_eq_getElem (by omega) | exact rfl | exact Zb (by first | (simp; done) | (simp; omega))) F.lay32 rfl rfl rfl ?_
                          refine Zal rfl rfl F.elem26 F.zero32 rfl rfl (.cons rfl (by constructor) .nil) rfl rfl (by simp only [List.map_cons, List.map_nil] <;> rfl) rfl ?_; intro b18 hob19
                          refine Zbi (m := 1000000) rfl rfl rfl rfl rfl F.elem26 F.zero32 (by first | rfl | exact Zbf rfl) rfl (by first | assumption | exact OSl.nil) (by repeat first | exact Rem.here _ | exact Rem.two | apply Rem.skip | apply Rem.over) (Src.own hob19.lens (by first | exact StepL06V.flat1 _ | exact StepL06V.flat1 ⟨_, _, _, _⟩ | exact TrR.flat1 _ | (refine Zao ?_; (repeat (first | exact Zam | refine Zaz ?_ | (refine Zah ?_ ?_; rfl))); done) | (refine Zao ?_; exact PeerV.flat _) | (simp [rowsCells, Segs.cells, Seg.cells, Value.oneCell']; done)) rfl (by repeat first | exact List.Mem.head _ | refine List.Mem.tail _ ?_ | refine List.mem_append_right _ ?_)) (by first | omega | (simp; done) | (simp; omega)) (by decide) rfl ?_; intro v22 hs21 ho20; obtain ⟨adv22, cpv22, rfl⟩ := ho20.val
                          skip
                          refine Zf rfl rfl rfl rfl ?_; refine Zg ?_; refine Zd ?_; refine Za (l := [0, 1]) rfl ?_; refine Zc rfl rfl rfl rfl ?_; refine Zf rfl rfl rfl rfl ?_; refine Zg ?_; refine Zaw ?_; refine Zaw ?_; refine Zd ?_; refine Za (l := [0, 1, 2]) rfl ?_; refine Zc rfl rfl rfl rfl ?_; refine Zbe rfl rfl rfl rfl rfl (by first | exact Zak (by decide) (by omega) | exact Zr (by decide) (by omega) | exact Zu (by decide) (by omega) | exact Zs (by decide) (by omega) | exact Zz _ | exact Zaj _ | exact Zaa _ | exact rfl) rfl ?_; refine Zf rfl rfl rfl rfl ?_; refine Zg ?_; refine Zbc (a' := [(6, _), (4, _), (5, _)]) (k + 1) (hs107 ++ hs21) (.cons (k := 6) rfl (.cons (k := 4) rfl (.cons (k := 5) rfl (.cons (k := 3) rfl (.cons (k := 2) rfl (.cons (k := 0) rfl (.nil))))))) (show M.le M5 from hm1.trans (hM2.trans (hM3.trans (hM4.trans hM5)))) (fun w hw => by first | exact hw | exact hw.cnt (by intro zz; first | exact Nat.le_refl _ | (simp only [Zh, Ze, Zi, cat, List.append_eq, List.append_assoc, List.cons_append, List.nil_append, List.append_nil]; omega) | (simp only [Zh, Ze, Zi, cat, List.append_eq, List.append_assoc, List.cons_append, List.nil_append, List.append_nil, StepL06V.segs]; omega))) ?_ ?_
                          · refine ⟨es.take j9 ++ [joinO (es.drop j9)], ws.take j9 ++ [v9], ts.take j9 ++ [t9], _, _, hs107, hs21, hle1.trans (hM2.trans (hM3.trans (hM4.trans hM5))), rfl, by omega, rfl, ?_, ?_, (((he.mono hM2).mono hM3).mono (hM4.trans hM5) |>.take j9).app (OEL.one (hv9.mono hM5)), (((ht.mono hM2).mono hM3).mono (hM4.trans hM5) |>.take j9).app (TOL.one ht9), okS_app (okS_take hok _) (okS_one (okS_join (okS_drop hok _))), ?_, ?_⟩
                            · rw [List.map_append]; exact ho107
                            · rw [List.map_append]; exact ho20
                            · have h9 := hso9 (by omega); have h8 := wt_cut es j9; omega
                            · simp only [List.length_append, List.length_singleton, List.length_take]; omega
                          · omega
                      · first | replace hc16 := dT hc16 | replace hc16 := dF hc16 | replace hc16 := nT hc16 | replace hc16 := nF hc16 | skip
                        try simp only [StepL06V.eta] at hc16
                        first
                        | (exfalso; omega)
                        | (exfalso; simp [eqX] at hc16; done)
                        | contradiction
                        | skip
                          refine Zy ?_; refine Zaw ?_; refine Zaw ?_; refine Zd ?_; refine Za (l := [0, 1, 2]) rfl ?_; refine Zc rfl rfl rfl rfl ?_; refine Zbe rfl rfl rfl rfl rfl (by first | exact Zak (by decide) (by omega) | exact Zr (by decide) (by omega) | exact Zu (by decide) (by omega) | exact Zs (by decide) (by omega) | exact Zz _ | exact Zaj _ | exact Zaa _ | exact rfl) rfl ?_; refine Zf rfl rfl rfl rfl ?_; refine Zg ?_; refine Zbc (a' := [(6, _), (4, _), (5, _)]) (k + 1) (hl ++ hm) (.cons (k := 6) rfl (.cons (k := 4) rfl (.cons (k := 5) rfl (.cons (k := 3) rfl (.cons (k := 2) rfl (.cons (k := 0) rfl (.nil))))))) (show M.le M1 from hm1) (fun w hw => by first | exact hw | exact hw.cnt (by intro zz; first | exact Nat.le_refl _ | (simp only [Zh, Ze, Zi, cat, List.append_eq, List.append_assoc, List.cons_append, List.nil_append, List.append_nil]; omega) | (simp only [Zh, Ze, Zi, cat, List.append_eq, List.append_assoc, List.cons_append, List.nil_append, List.append_nil, StepL06V.segs]; omega))) ?_ ?_
                          · refine ⟨es, ws, ts, _, _, hl, hm, hle1, rfl, by omega, rfl, ho4, ho5, he, ht, hok, ?_, by omega⟩
                            have h9 := hso9 (by omega); omega
                          · omega
                  · first | replace hc15 := dT hc15 | replace hc15 := dF hc15 | replace hc15 := nT hc15 | replace hc15 := nF hc15 | skip
                    try simp only [StepL06V.eta] at hc15
                    first
                    | (exfalso; omega)
                    | (exfalso; simp [eqX] at hc15; done)
                    | contradiction
                    | skip
                      refine Zac rfl rfl rfl ?_; refine Zac rfl rfl rfl ?_; refine Zac rfl rfl rfl ?_; refine Zac rfl rfl rfl ?_; refine Zac rfl rfl rfl ?_; refine Zag rfl rfl rfl rfl rfl ?_; refine Zg ?_; refine Zd ?_; refine Zba rfl ?_; refine Zy ?_; refine Zaw ?_; refine Zaw ?_; refine Zd ?_; refine Za (l := [0, 1, 2]) rfl ?_; refine Zc rfl rfl rfl rfl ?_; refine Zbe rfl rfl rfl rfl rfl (by first | exact Zak (by decide) (by omega) | exact Zr (by decide) (by omega) | exact Zu (by decide) (by omega) | exact Zs (by decide) (by omega) | exact Zz _ | exact Zaj _ | exact Zaa _ | exact rfl) rfl ?_; refine Zf rfl rfl rfl rfl ?_; refine Zg ?_; refine Zbc (a' := [(6, _), (4, _), (5, _)]) (k + 1) (hl ++ hm) (.cons (k := 6) rfl (.cons (k := 4) rfl (.cons (k := 5) rfl (.cons (k := 3) rfl (.cons (k := 2) rfl (.cons (k := 0) rfl (.nil))))))) (show M.le M1 from hm1) (fun w hw => by first | exact hw | exact hw.cnt (by intro zz; first | exact Nat.le_refl _ | (simp only [Zh, Ze, Zi, cat, List.append_eq, List.append_assoc, List.cons_append, List.nil_append, List.append_nil]; omega) | (simp only [Zh, Ze, Zi, cat, List.append_eq, List.append_assoc, List.cons_append, List.nil_append, List.append_nil, StepL06V.segs]; omega))) ?_ ?_
                      · refine ⟨es, ws, ts, _, _, hl, hm, hle1, rfl, by omega, rfl, ho4, ho5, he, ht, hok, ?_, by omega⟩
                        have h9 := hso9 (by omega); omega
                      · omega
              · first | replace hc14 := dT hc14 | replace hc14 := dF hc14 | replace hc14 := nT hc14 | replace hc14 := nF hc14 | skip
                try simp only [StepL06V.eta] at hc14
                first
                | (exfalso; omega)
                | (exfalso; simp [eqX] at hc14; done)
                | contradiction
                | skip
                  refine Zj ?_; refine Za (l := [0, 1, 2, 3]) rfl ?_; refine Zc rfl rfl rfl rfl ?_
                  refine Zal rfl rfl F.elem25 F.zero30 rfl rfl (.cons rfl (by constructor) .nil) rfl rfl (by simp only [List.map_cons, List.map_nil] <;> rfl) rfl ?_; intro b23 hob24
                  refine Zbi (m := 1000000) rfl rfl rfl rfl rfl F.elem25 F.zero30 (by first | rfl | exact Zbf rfl) rfl (by first | assumption | exact OSl.nil) (by repeat first | exact Rem.here _ | exact Rem.two | apply Rem.skip | apply Rem.over) (Src.own hob24.lens (by first | exact StepL06V.flat1 _ | exact StepL06V.flat1 ⟨_, _, _, _⟩ | exact TrR.flat1 _ | (refine Zao ?_; (repeat (first | exact Zam | refine Zaz ?_ | (refine Zah ?_ ?_; rfl))); done) | (refine Zao ?_; exact PeerV.flat _) | (simp [rowsCells, Segs.cells, Seg.cells, Value.oneCell']; done)) rfl (by repeat first | exact List.Mem.head _ | refine List.Mem.tail _ ?_ | refine List.mem_append_right _ ?_)) (by first | omega | (simp; done) | (simp; omega)) (by decide) rfl ?_; intro v27 hs26 ho25; obtain ⟨adv27, cpv27, rfl⟩ := ho25.val
                  skip
                  refine Zf rfl rfl rfl rfl ?_; refine Zg ?_; refine Zd ?_; refine Za (l := [0, 1, 2, 3, 4]) rfl ?_; refine Zc rfl rfl rfl rfl ?_; refine Zbg rfl rfl F.bld32 (.nil) rfl rfl ?_
                  refine Zal rfl rfl F.elem26 F.zero32 rfl rfl (.cons rfl (by constructor) .nil) rfl rfl (by simp only [List.map_cons, List.map_nil] <;> rfl) rfl ?_; intro b28 hob29
                  refine Zbi (m := 1000000) rfl rfl rfl rfl rfl F.elem26 F.zero32 (by first | rfl | exact Zbf rfl) rfl (by first | assumption | exact OSl.nil) (by repeat first | exact Rem.here _ | exact Rem.two | apply Rem.skip | apply Rem.over) (Src.own hob29.lens (by first | exact StepL06V.flat1 _ | exact StepL06V.flat1 ⟨_, _, _, _⟩ | exact TrR.flat1 _ | (refine Zao ?_; (repeat (first | exact Zam | refine Zaz ?_ | (refine Zah ?_ ?_; rfl))); done) | (refine Zao ?_; exact PeerV.flat _) | (simp [rowsCells, Segs.cells, Seg.cells, Value.oneCell']; done)) rfl (by repeat first | exact List.Mem.head _ | refine List.Mem.tail _ ?_ | refine List.mem_append_right _ ?_)) (by first | omega | (simp; done) | (simp; omega)) (by decide) rfl ?_; intro v32 hs31 ho30; obtain ⟨adv32, cpv32, rfl⟩ := ho30.val
                  skip
                  refine Zf rfl rfl rfl rfl ?_; refine Zg ?_; refine Zaw ?_; refine Zaw ?_; refine Zd ?_; refine Za (l := [0, 1, 2]) rfl ?_; refine Zc rfl rfl rfl rfl ?_; refine Zbe rfl rfl rfl rfl rfl (by first | exact Zak (by decide) (by omega) | exact Zr (by decide) (by omega) | exact Zu (by decide) (by omega) | exact Zs (by decide) (by omega) | exact Zz _ | exact Zaj _ | exact Zaa _ | exact rfl) rfl ?_; refine Zf rfl rfl rfl rfl ?_; refine Zg ?_; refine Zbc (a' := [(6, _), (4, _), (5, _)]) (k + 1) (hs26 ++ hs31) (.cons (k := 6) rfl (.cons (k := 4) rfl (.cons (k := 5) rfl (.cons (k := 3) rfl (.cons (k := 2) rfl (.cons (k := 0) rfl (.nil))))))) (show M.le M1 from hm1) (fun w hw => by first | exact hw | exact hw.cnt (by intro zz; first | exact Nat.le_refl _ | (simp only [Zh, Ze, Zi, cat, List.append_eq, List.append_assoc, List.cons_append, List.nil_append, List.append_nil]; omega) | (simp only [Zh, Ze, Zi, cat, List.append_eq, List.append_assoc, List.cons_append, List.nil_append, List.append_nil, StepL06V.segs]; omega))) ?_ ?_
                  · refine ⟨es ++ [none], ws ++ [.nilIface], ts ++ [zT], _, _, hs26, hs31, hle1, rfl, by omega, rfl, ?_, ?_, he.app (OEL.one (show OE M1 (none) (.nilIface) from rfl)), ht.app (TOL.one (show TO M1 (none) (zT) from rfl)), okS_app hok (okS_one (okO_none)), ?_, ?_⟩
                    · rw [List.map_append]; exact ho25
                    · rw [List.map_append]; exact ho30
                    · have h9 := hso9 (by omega); have h8 := wtS_app es [none]; have h7 := wt_new s_l[k].code; simp only [wtS, wtO] at h8 h7 ⊢; omega
                    · simp only [List.length_append, List.length_singleton]; omega
                  · omega
  · first | replace hc1 := dT hc1 | replace hc1 := dF hc1 | replace hc1 := nT hc1 | replace hc1 := nF hc1 | skip
    try simp only [StepL06V.eta] at hc1
    first
    | (exfalso; omega)
    | (exfalso; simp [eqX] at hc1; done)
    | contradiction
    | skip
      refine Zbk ?_; refine Zau ?_; refine Zau ?_; refine Zbs ?_; refine Zd ?_; refine Zk (.cons (k := 4) rfl (.cons (k := 5) rfl (.cons (k := 3) rfl (.cons (k := 2) rfl .nil)))) ?_; refine Zj ?_; refine Za (l := [0, 1, 2, 3]) rfl ?_; refine Zc rfl rfl rfl rfl ?_; refine Zc rfl rfl rfl rfl ?_; refine Zf rfl rfl rfl rfl ?_; refine Zf rfl rfl rfl rfl ?_; refine Zg ?_; refine Zd ?_; refine Zk (.cons (k := 3) rfl (.cons (k := 2) rfl .nil)) ?_; refine Zaq ?_
      refine Zap (.inr rfl) (.tmp rfl (.tmp rfl .nil)) (fun w hw => ?_)
      obtain rfl : k = s_l.length := by omega
      rw [List.take_length] at hwt
      obtain ⟨M2, g1, g2, g3⟩ := ho4.frz (H := hm ++ H) (hw.cnt (by intro zz; first | exact Nat.le_refl _ | (simp only [Zh, Ze, Zi, cat, List.append_eq, List.append_assoc, List.cons_append, List.nil_append, List.append_nil]; omega) | (simp only [Zh, Ze, Zi, cat, List.append_eq, List.append_assoc, List.cons_append, List.nil_append, List.append_nil, StepL06V.segs]; omega)))
      obtain ⟨M3, g4, g5, g6⟩ := ho5.frz (H := H) (g2.cnt (by intro zz; first | exact Nat.le_refl _ | (simp only [Zh, Ze, Zi, cat, List.append_eq, List.append_assoc, List.cons_append, List.nil_append, List.append_nil]; omega) | (simp only [Zh, Ze, Zi, cat, List.append_eq, List.append_assoc, List.cons_append, List.nil_append, List.append_nil, StepL06V.segs]; omega)))
      have hfw := hfew.2
      have hf2 := hfew.1
      simp only at hfw hf2
      exact ⟨_, M3, rfl, hle1.trans (g1.trans g4), g5, es, ⟨_, _, ws⟩, ⟨_, _, ts⟩, rfl, ⟨g3.mono g4, g6, (he.mono g1).mono g4, (ht.mono g1).mono g4, hok, by omega, by omega⟩⟩
end Go.Proofs.YtbeahcfghjiogaaDoor
namespace Go.Proofs.YtbeahcfghjiogaaDoor
open Go.Esp
theorem F.ok13 : okFn Tryd.prog 13 = true := by kernel_rfl
theorem F.ok15 : okFn Tryd.prog 15 = true := by kernel_rfl
theorem F.ok16 : okFn Tryd.prog 16 = true := by kernel_rfl
theorem F.ok18 : okFn Tryd.prog 18 = true := by kernel_rfl
theorem F.ok9 : okFn Tryd.prog 9 = true := by kernel_rfl
theorem Zbq {ms : Array (String × TypeId)} {M : Mem} : ∀ {o : Option Err} {v : Value}, OE M o v → nilOf (.interface ms) v = some (o.isNone, .nilIface)
  | none, v, h => by
    obtain rfl : v = .nilIface := h
    rfl
  | some e, v, h => by
    obtain ⟨t, u, rfl⟩ := ErrV.iface h
    rfl
structure Wo (M : Mem) : Prop where
  e : EG M
  d : M.dr = 0
theorem Wo.mono {M M' : Mem} (h : Wo M) (hm : M.le M') : Wo M' := ⟨h.e.mono hm, hm.loose h.d⟩
def getB : ByteArray := ⟨#[103, 101, 116]⟩
def exE : Err := .wrap getB (.join [.code 7, .code 10])
theorem exE_ok : ∀ c ∈ exE.codes, okC c ∧ 0 ≤ c ∧ c < 100 := by
  intro c hc
  simp only [exE, Err.codes, codesL, List.append_nil, List.cons_append, List.nil_append, List.mem_cons, List.not_mem_nil, or_false] at hc
  rcases hc with rfl | rfl <;> exact ⟨⟨by decide, by decide, by decide⟩, by decide, by decide⟩
theorem exE_text : exE.text = ⟨#[103, 101, 116, 58, 32, 101, 114, 114, 111, 114, 32, 55, 59, 32, 101, 114, 114, 111, 114, 32, 49, 48]⟩ := by
  have h7 : itoaB 7 = ⟨#[55]⟩ := by
    unfold itoaB Lib.itoa
    rw [if_neg (by decide), show (7 : Int).toNat = 7 from rfl, Lib.decDigits, dif_pos (by decide)]; rfl
  have h10 : itoaB 10 = ⟨#[49, 48]⟩ := by
    unfold itoaB Lib.itoa
    rw [if_neg (by decide), show (10 : Int).toNat = 10 from rfl, Lib.decDigits, dif_neg (by decide), Lib.decDigits, dif_pos (by decide)]; rfl
  simp only [exE, Err.text, textsL, joinB, h7, h10]
  rfl
theorem blamed_ok (M : Mem) (hW : Wo M) : Esp.Fn Tryd.prog 20 [] M (fun _ v => v = .bool true) := by
  refine fn_enter Tryd.func20 rfl Tryd.ntmps20 rfl ?_; intro H
  refine Zj ?_; refine Za (l := [0]) rfl ?_; refine Zf rfl rfl rfl rfl ?_; refine Zg ?_; refine Zd ?_; refine Zj ?_; refine Za (l := [0, 1, 2, 3, 4, 5]) rfl ?_; refine X_fs rfl rfl F.ok23 rfl (bNew_ok _ _) rfl ?_
  rintro _ rfl
  refine Zbd 2 rfl (show newE 7 = Value.iface 60 (aggV [.one (.int .i64 7)]) from if_neg (by decide)) ?_; refine X_fs rfl rfl F.ok23 rfl (bNew_ok _ _) rfl ?_
  rintro _ rfl
  refine Zbd 3 rfl (show newE 10 = Value.iface 60 (aggV [.one (.int .i64 10)]) from if_neg (by decide)) ?_
  refine Zal rfl rfl F.elem25 F.zero30 rfl rfl (.cons rfl (by constructor) (.cons rfl (by constructor) (.cons rfl (by constructor) .nil))) rfl rfl (by simp only [List.map_cons, List.map_nil] <;> rfl) rfl ?_; intro b1 hob2
  refine X_fhR rfl rfl F.ok22 rfl ((fh_thaw (f := (fun u => ([.one u] : Segs))) (l := [Value.nilIface, Value.iface 60 (aggV [.one (.int .i64 7)]), Value.iface 60 (aggV [.one (.int .i64 10)])]) hob2 (fun M9 h9 k9 => ((bJoin_ok M9 ⟨_, _, [Value.nilIface, Value.iface 60 (aggV [.one (.int .i64 7)]), Value.iface 60 (aggV [.one (.int .i64 10)])]⟩ [none, some (.code 7), some (.code 10)] k9 ⟨rfl, fun k h1 h2 => by rcases k with _ | _ | _ | k <;> first | rfl | (simp at h1; done) | (simp at h1; omega)⟩ (show 3 ≤ 1000 by decide)).fo []).fh))) (by repeat first | exact Rem.here _ | exact Rem.two | apply Rem.skip | apply Rem.over) (fun _ _ _ hm hw => (hw.lower (by first | exact hm | exact Mem.le.trans (by assumption) hm | exact Mem.le.trans (by first | exact Mem.le.refl _ | assumption | (repeat first | assumption | refine Mem.le.trans (by assumption) ?_)) hm)).cnt (by intro zz; first | exact Nat.le_refl _ | (simp only [Zh, Ze, Zi, cat, List.append_eq, List.append_assoc, List.cons_append, List.nil_append, List.append_nil]; omega) | (simp only [Zh, Ze, Zi, cat, List.append_eq, List.append_assoc, List.cons_append, List.nil_append, List.append_nil, StepL06V.segs]; omega))) (putE_some rfl) ?_
  rintro v5 M2 _ hm2 ⟨rfl, hv5⟩
  refine X_fn rfl rfl F.ok21 rfl (bWrap_o M2 getB _ v5 hv5) rfl ?_
  rintro v6 M3 hm3 hv6
  replace hv6 : OE M3 (some exE) v6 := hv6
  have hW3 := (hW.mono hm2).mono hm3
  refine Zf rfl rfl rfl rfl ?_; refine Zg ?_; refine Zd ?_; refine Zk (.cons (k := 1) rfl (.cons (k := 0) rfl .nil)) ?_; refine Zj ?_; refine Za (l := [0, 1, 2, 3, 4, 5, 6, 7, 8, 9, 10, 11, 12, 13, 14, 15, 16, 17, 18, 19, 20, 21, 22, 23, 24, 25, 26, 27, 28, 29, 30, 31]) rfl ?_; refine Zc rfl rfl rfl rfl ?_; refine X_fs rfl rfl F.ok18 rfl (bText_o M3 hW3.d (some exE) v6 hv6 (fun c hc => ⟨(exE_ok c hc).1, Itoa_at M3 c (exE_ok c hc).2⟩) (by decide)) rfl ?_
  rintro _ rfl
  refine X_str rfl rfl rfl rfl rfl rfl ?_; refine Zbd 9 rfl (congrArg Value.bool (decide_eq_true exE_text)) ?_; refine Zc rfl rfl rfl rfl ?_; refine Zc rfl rfl rfl rfl ?_; refine X_fs rfl rfl F.ok9 rfl (Zbl M3 hW3.e (some exE) v6 hv6) rfl ?_
  rintro _ rfl
  rw [show codeO (some exE) = 7 from rfl]
  refine Zas rfl rfl rfl rfl rfl rfl ?_; refine Zbd 13 rfl (show Value.bool (decide ((7 : Int) = 7)) = .bool true from rfl) ?_; refine Zag rfl rfl rfl rfl rfl ?_; refine Zc rfl rfl rfl rfl ?_; refine Zc rfl rfl rfl rfl ?_; refine X_fs rfl rfl F.ok13 rfl (bAgain_o _ (some exE) _ hv6) rfl ?_
  rintro _ rfl
  refine Zbd 17 rfl (show Value.bool (againO (some exE)) = .bool true from rfl) ?_; refine Zag rfl rfl rfl rfl rfl ?_; refine Zc rfl rfl rfl rfl ?_; refine X_fs rfl rfl F.ok23 rfl (bNew_ok _ _) rfl ?_
  rintro _ rfl
  refine Zbd 20 rfl (show newE 7 = Value.iface 60 (aggV [.one (.int .i64 7)]) from if_neg (by decide)) ?_; refine X_fs rfl rfl F.ok13 rfl (bAgain_o _ (some (.code 7)) _ rfl) rfl ?_
  rintro _ rfl
  refine Zbd 21 rfl (show Value.bool (againO (some (.code 7))) = .bool false from rfl) ?_; refine X_not rfl rfl rfl rfl ?_; refine Zbd 22 rfl (show Value.bool (!false) = .bool true from rfl) ?_; refine Zag rfl rfl rfl rfl rfl ?_; refine Zc rfl rfl rfl rfl ?_; refine Zc rfl rfl rfl rfl ?_; refine X_fn rfl rfl F.ok16 rfl (bTrail_o M3 (some exE) v6 hv6 (by decide)) rfl ?_
  rintro _ M4 hm4 ⟨⟨a9, c9, l9⟩, rfl, hs9, hk9⟩
  simp only at hs9
  refine Zal rfl rfl F.elem40 F.zero9 rfl rfl (.cons rfl (by constructor) .nil) rfl rfl (by simp only [List.map_cons, List.map_nil] <;> rfl) rfl ?_; intro b3 hob4
  refine X_fhR rfl rfl F.ok15 rfl ((fh_thaw (f := oneS) (l := [getB]) hob4 (fun M9 h9 k9 => ((fnOfFs (Same_ok M9 ⟨a9, c9, l9⟩ ⟨_, _, [getB]⟩ (hk9.mono h9) k9)).fo []).fh))) (by repeat first | exact Rem.here _ | exact Rem.two | apply Rem.skip | apply Rem.over) (fun _ _ _ hm hw => (hw.lower (by first | exact hm | exact Mem.le.trans (by assumption) hm | exact Mem.le.trans (by first | exact Mem.le.refl _ | assumption | (repeat first | assumption | refine Mem.le.trans (by assumption) ?_)) hm)).cnt (by intro zz; first | exact Nat.le_refl _ | (simp only [Zh, Ze, Zi, cat, List.append_eq, List.append_assoc, List.cons_append, List.nil_append, List.append_nil]; omega) | (simp only [Zh, Ze, Zi, cat, List.append_eq, List.append_assoc, List.cons_append, List.nil_append, List.append_nil, StepL06V.segs]; omega))) (putE_some rfl) ?_
  rintro _ M5 _ hm5 ⟨rfl, rfl⟩
  refine Zbd 28 rfl (congrArg Value.bool (decide_eq_true hs9)) ?_; refine Zag rfl rfl rfl rfl rfl ?_; refine Zc rfl rfl rfl rfl ?_; refine X_fs rfl rfl F.ok11 rfl (Zbt _ _ none _ rfl) rfl ?_
  rintro _ rfl
  refine Zbd 31 rfl (show Value.bool (hasO none 0) = .bool true from rfl) ?_; refine Zag rfl rfl rfl rfl rfl ?_; refine Zc rfl rfl rfl rfl ?_; refine Zc rfl rfl rfl rfl ?_; refine X_fs rfl rfl F.ok11 rfl (Zbt _ _ (some exE) _ ((hv6.mono hm4).mono hm5)) rfl ?_
  rintro _ rfl
  refine Zbd 35 rfl (show Value.bool (hasO (some exE) 1) = .bool false from rfl) ?_; refine X_not rfl rfl rfl rfl ?_; refine Zbd 36 rfl (show Value.bool (!false) = .bool true from rfl) ?_; refine Zag rfl rfl rfl rfl rfl ?_; refine Zf rfl rfl rfl rfl ?_; refine Zg ?_; refine Zd ?_; refine Zk (.cons (k := 0) rfl .nil) ?_; refine Zaq ?_
  refine Zap (.inr rfl) (.tmp rfl .nil) (fun w hw => ?_)
  exact ⟨_, _, rfl, hm2.trans (hm3.trans (hm4.trans (by assumption))), hw.cnt (by intro zz; first | exact Nat.le_refl _ | (simp only [Zh, Ze, Zi, cat, List.append_eq, List.append_assoc, List.cons_append, List.nil_append, List.append_nil]; omega) | (simp only [Zh, Ze, Zi, cat, List.append_eq, List.append_assoc, List.cons_append, List.nil_append, List.append_nil, StepL06V.segs]; omega)), rfl⟩
end Go.Proofs.YtbeahcfghjiogaaDoor
namespace Go.Proofs.YtbeahcfghjiogaaDoor
open Go.Esp
theorem F.ok20 : okFn Tryd.prog 20 = true := by kernel_rfl
theorem F.ok7 : okFn Tryd.prog 7 = true := by kernel_rfl
theorem F.ok8 : okFn Tryd.prog 8 = true := by kernel_rfl
def anyH (es : List (Option Err)) (c : Int) (k : Nat) : Bool := (es.drop k).any fun o => hasO o c
def anyA (es : List (Option Err)) (k : Nat) : Bool := (es.drop k).any againO
def NeS (es : List (Option Err)) : Prop := ∀ k (h : k < es.length), ∀ e, es[k] = some e → e.codes ≠ []
theorem NeS.of {M : Mem} {es : List (Option Err)} {ws : List Value} (h : OEL M es ws) : NeS es := fun k hk e he => by
  have h9 := h.at_ k hk (by have := h.len; omega)
  rw [he] at h9
  exact ErrV.codes_ne h9
theorem anyH_step {es : List (Option Err)} {c : Int} {j : Nat} (h : j < es.length) : anyH es c j = (hasO es[j] c || anyH es c (j + 1)) := by
  unfold anyH
  rw [List.drop_eq_getElem_cons h, List.any_cons]
theorem anyA_step {es : List (Option Err)} {j : Nat} (h : j < es.length) : anyA es j = (againO es[j] || anyA es (j + 1)) := by
  unfold anyA
  rw [List.drop_eq_getElem_cons h, List.any_cons]
theorem first_step {es : List (Option Err)} {j : Nat} (h : j < es.length) (hn : NeS es) : codeO (joinO (es.drop j)) = if es[j].isNone then codeO (joinO (es.drop (j + 1))) else codeO es[j] := by
  rw [List.drop_eq_getElem_cons h]
  unfold codeO
  rw [codes_join, codes_join]
  cases he : es[j] with
  | none => simp [somes]
  | some e =>
    have h9 := hn j h e he
    simp only [somes, codesL, codesO, Option.isNone_some]
    cases hc : e.codes with
    | nil => exact (h9 hc).elim
    | cons a b => rfl
theorem hasL {es : List (Option Err)} {c : Int} (hc : c ≠ 0) : decide (c ∈ codesL (somes es)) = es.any fun o => hasO o c := by
  induction es with
  | nil => rfl
  | cons o r ih =>
    rw [List.any_cons, ← ih]
    cases o with
    | none =>
      simp [somes, hasO, hc, codesO]
      exact decide_eq_decide.2 Iff.rfl
    | some e =>
      simp [somes, hasO, hc, codesO, codesL]
      exact congr (congrArg or (decide_eq_decide.2 Iff.rfl)) (decide_eq_decide.2 Iff.rfl)
theorem has_join {es : List (Option Err)} {c : Int} (hc : c ≠ 0) : hasO (joinO es) c = anyH es c 0 := by
  rw [hasO, if_neg hc, codes_join, hasL hc]
  rfl
theorem again_join (es : List (Option Err)) : againO (joinO es) = anyA es 0 := by
  unfold againO anyA
  rw [has_join (by decide), has_join (by decide), has_join (by decide)]
  unfold anyH
  rw [List.drop_zero]
  induction es with
  | nil => rfl
  | cons o r ih =>
    simp only [List.any_cons]
    rw [← ih]
    unfold againO
    cases hasO o 8 <;> cases hasO o 10 <;> cases hasO o 11 <;> simp <;> cases (r.any fun o => hasO o 8) <;> cases (r.any fun o => hasO o 10) <;> simp
theorem trail_join (es : List (Option Err)) : trailO (joinO es) = [] := by
  unfold joinO
  cases somes es with
  | nil => rfl
  | cons e r => rfl
theorem none_join {es : List (Option Err)} (hk : okS es) (hn : NeS es) : (joinO es).isNone = decide (codeO (joinO es) = 0) := by
  have h1 : okO (joinO es) := okS_join hk
  cases hj : joinO es with
  | none => rfl
  | some e =>
    have hne : codesO (joinO es) ≠ [] := by
      rw [codes_join]
      intro h9
      have hs : somes es ≠ [] := by
        intro h8
        unfold joinO at hj
        rw [h8] at hj
        cases hj
      obtain ⟨k, hk2, e2, he2⟩ : ∃ k, ∃ h : k < es.length, ∃ e, es[k] = some e := by
        clear h1 hj h9 hk hn
        induction es with
        | nil => exact (hs rfl).elim
        | cons o r ih =>
          cases o with
          | some e => exact ⟨0, by simp, e, rfl⟩
          | none =>
            obtain ⟨k, h, e, he⟩ := ih hs
            exact ⟨k + 1, by simpa using h, e, by simpa using he⟩
      have h7 := hn k hk2 e2 he2
      cases hc : e2.codes with
      | nil => exact h7 hc
      | cons a b =>
        have h6 : a ∈ codesL (somes es) := by
          have h5 := hasL (es := es) (c := a) (hk _ (List.getElem_mem hk2) a (by rw [he2]; show a ∈ e2.codes; rw [hc]; exact .head _)).1
          have h4 : (es.any fun o => hasO o a) = true := List.any_eq_true.2 ⟨es[k], List.getElem_mem hk2, by rw [he2, hasO, if_neg (hk _ (List.getElem_mem hk2) a (by rw [he2]; show a ∈ e2.codes; rw [hc]; exact .head _)).1]; exact decide_eq_true (by show a ∈ e2.codes; rw [hc]; exact .head _)⟩
          rw [h4] at h5
          exact of_decide_eq_true h5
        rw [h9] at h6
        cases h6
    rw [hj] at hne h1
    refine (decide_eq_false (fun h9 => ?_)).symm
    unfold codeO at h9
    cases hc : codesO (some e) with
    | nil => exact hne hc
    | cons a b =>
      rw [hc] at h9
      exact (h1 a (by rw [hc]; exact .head _)).1 h9
theorem lawJoins_ok (M : Mem) (s : Sl StepL06V) (c : Int) (hs : Scr M s) (hW : Wo M) : Esp.Fn Tryd.prog 5 [s.val, .int .i64 c] M (fun _ v => v = .bool true) := by
  refine fn_enter Tryd.func5 rfl Tryd.ntmps5 rfl ?_; intro H
  refine Zj ?_; refine Za (l := [0]) rfl ?_; refine Zf rfl rfl rfl rfl ?_; refine Zg ?_; refine Zd ?_; refine Zj ?_; refine Zj ?_; refine Za (l := [0, 1, 2]) rfl ?_; refine Zc rfl rfl rfl rfl ?_; refine X_fs rfl rfl F.ok7 rfl (few_ok M s hs) rfl ?_
  rintro _ rfl
  refine X_not rfl rfl rfl rfl ?_; refine Zg ?_; refine Zd ?_; refine Zk (.cons (k := 14) rfl (.cons (k := 4) rfl (.cons (k := 0) rfl (.cons (k := 1) rfl .nil)))) ?_
  refine Zae rfl (fun hc1 => ?_) (fun hc1 => ?_)
  · first | replace hc1 := dT hc1 | replace hc1 := dF hc1 | replace hc1 := nT hc1 | replace hc1 := nF hc1 | skip
    first
    | (exfalso; omega)
    | (exfalso; simp [eqX] at hc1; done)
    | contradiction
    | skip
      refine Zj ?_; refine Za (l := [0]) rfl ?_; refine Zf rfl rfl rfl rfl ?_; refine Zg ?_; refine Zd ?_; refine Zk (.cons (k := 4) rfl (.cons (k := 0) rfl (.cons (k := 1) rfl .nil))) ?_; refine Zaq ?_; refine Zay ?_
      refine Zap (.inr rfl) (.tmp rfl .nil) (fun w hw => ?_)
      exact ⟨_, M, rfl, Mem.le.refl M, hw.cnt (by intro zz; first | exact Nat.le_refl _ | (simp only [Zh, Ze, Zi, cat, List.append_eq, List.append_assoc, List.cons_append, List.nil_append, List.append_nil]; omega) | (simp only [Zh, Ze, Zi, cat, List.append_eq, List.append_assoc, List.cons_append, List.nil_append, List.append_nil, StepL06V.segs]; omega)), rfl⟩
  · first | replace hc1 := dT hc1 | replace hc1 := dF hc1 | replace hc1 := nT hc1 | replace hc1 := nF hc1 | skip
    first
    | (exfalso; omega)
    | (exfalso; simp [eqX] at hc1; done)
    | contradiction
    | skip
      refine Zy ?_; refine Zd ?_; refine Zk (.cons (k := 4) rfl (.cons (k := 0) rfl (.cons (k := 1) rfl .nil))) ?_; refine Zj ?_; refine Za (l := [0, 1, 2, 3, 4, 5, 6]) rfl ?_; refine Zc rfl rfl rfl rfl ?_; refine X_fn rfl rfl F.ok8 rfl (built_ok M s hs (by assumption)) rfl ?_
      rintro _ M1 hm1 ⟨es, ⟨xa, xc, xl⟩, ⟨ya, yc, yl⟩, rfl, hB⟩
      have s_x : SlM M1 xa (xl.map (fun u => ([.one u] : Segs))) 1 := hB.ks.h1
      have n_x : (xl.map (fun u => ([.one u] : Segs))).length = xl.length := List.length_map ..
      have m_x : xl.length ≤ 9223372036854775807 := hB.ks.h2
      have hlx : xl.length = es.length := hB.os.len
      have hl60 := hB.len
      have hW1 := hW.mono hm1
      refine Zc rfl rfl rfl rfl ?_; refine Zw rfl rfl rfl rfl rfl ?_; refine Zw rfl rfl rfl rfl rfl ?_; refine Zf rfl rfl rfl rfl ?_; refine Zf rfl rfl rfl rfl ?_; refine Zg ?_; refine Zd ?_; refine Zk (.cons (k := 5) rfl (.cons (k := 4) rfl (.cons (k := 1) rfl .nil))) ?_; refine Zj ?_; refine Za (l := [0, 1, 2]) rfl ?_; refine Zc rfl rfl rfl rfl ?_; refine X_fn rfl rfl F.ok22 rfl (bJoin_ok M1 ⟨xa, xc, xl⟩ es hB.ks hB.os (show xl.length ≤ 1000 by omega)) rfl ?_
      rintro va M2 hm2 hva
      have hW2 := hW1.mono hm2
      have s_2 := s_x.mono hm2
      have hos := hB.os.mono hm2
      have hne := NeS.of hB.os
      refine Zf rfl rfl rfl rfl ?_; refine Zg ?_; refine Zd ?_; refine Zk (.cons (k := 7) rfl (.cons (k := 5) rfl (.cons (k := 4) rfl (.cons (k := 1) rfl .nil)))) ?_; refine Zj ?_; refine Za (l := [0]) rfl ?_; refine Zf rfl rfl rfl rfl ?_; refine Zg ?_; refine Zd ?_; refine Zj ?_; refine Za (l := [0]) rfl ?_; refine Zf rfl rfl rfl rfl ?_; refine Zg ?_; refine Zd ?_; refine Zj ?_; refine Za (l := [0]) rfl ?_; refine Zf rfl rfl rfl rfl ?_; refine Zg ?_; refine Zd ?_; refine Zj ?_; refine Zj ?_; refine Za (l := [0, 1, 2, 3]) rfl ?_; refine Zc rfl rfl rfl rfl ?_; refine Zan rfl rfl rfl rfl F.elem25 rfl ?_; refine Zbe rfl rfl rfl rfl rfl (by first | exact Zak (by decide) (by omega) | exact Zr (by decide) (by omega) | exact Zu (by decide) (by omega) | exact Zs (by decide) (by omega) | exact Zz _ | exact Zaj _ | exact Zaa _ | exact rfl) rfl ?_
      refine Zf rfl rfl rfl rfl ?_; refine Zg ?_; refine Zd ?_; refine Zk (.cons (k := 11) rfl (.cons (k := 10) rfl (.cons (k := 9) rfl (.cons (k := 8) rfl (.cons (k := 7) rfl (.cons (k := 5) rfl (.cons (k := 4) rfl (.cons (k := 1) rfl .nil)))))))) ?_; refine Zx ?_; refine Zk (.cons (k := 11) rfl (.cons (k := 8) rfl (.cons (k := 9) rfl (.cons (k := 10) rfl (.cons (k := 7) rfl (.cons (k := 5) rfl (.cons (k := 4) rfl (.cons (k := 1) rfl .nil)))))))) ?_; refine C_loopS (.succ (.succ (.succ (.succ .zero)))) (fun (k : Nat) z => z = [(11, .int .i64 ((k : Int) - 1)), (8, .bool (anyH es c k)), (9, .bool (anyA es k)), (10, .int .i64 (codeO (joinO (es.drop k))))] ∧ k ≤ xl.length) (fun k => k) (xl.length) (⟨by rw [hlx]; unfold anyH anyA; rw [List.drop_length]; rfl, Nat.le_refl _⟩) ?_
      rintro k _ ⟨rfl, hk⟩
      rcases k with _ | j9
      · skip
        refine Zj ?_; refine Zj ?_; refine Za (l := [0, 1]) rfl ?_; refine Zc rfl rfl rfl rfl ?_; refine Zas rfl rfl rfl rfl rfl rfl ?_; refine Zg ?_; refine Zd ?_
        refine Zae rfl (fun hc2 => ?_) (fun hc2 => ?_)
        · first | replace hc2 := dT hc2 | replace hc2 := dF hc2 | replace hc2 := nT hc2 | replace hc2 := nF hc2 | skip
          first
          | (exfalso; omega)
          | (exfalso; simp [eqX] at hc2; done)
          | contradiction
          | skip
            refine Zy ?_; refine Zd ?_; refine Zj ?_; refine Zx ?_; refine Zj ?_; refine Za (l := [0, 1, 2, 3, 4, 5, 6, 7, 8, 9]) rfl ?_; refine Zc rfl rfl rfl rfl ?_; refine Zc rfl rfl rfl rfl ?_
            refine Zbn 30 rfl (fun hc3 => ?_) (fun hc3 => ?_)
            · first | replace hc3 := dT hc3 | replace hc3 := dF hc3 | replace hc3 := nT hc3 | replace hc3 := nF hc3 | skip
              first
              | (exfalso; omega)
              | (exfalso; simp [eqX] at hc3; done)
              | contradiction
              | skip
                refine Zac rfl rfl rfl ?_; refine Zac rfl rfl rfl ?_; refine Zac rfl rfl rfl ?_; refine Zac rfl rfl rfl ?_; refine Zac rfl rfl rfl ?_; refine Zac rfl rfl rfl ?_; refine Zag rfl rfl rfl rfl rfl ?_; refine Zf rfl rfl rfl rfl ?_; refine Zg ?_; refine Zd ?_; refine Zj ?_; refine Za (l := [0, 1, 2, 3, 4, 5, 6, 7, 8]) rfl ?_; refine Zc rfl rfl rfl rfl ?_; refine Zc rfl rfl rfl rfl ?_
                refine Zbn 39 rfl (fun hc4 => ?_) (fun hc4 => ?_)
                · first | replace hc4 := dT hc4 | replace hc4 := dF hc4 | replace hc4 := nT hc4 | replace hc4 := nF hc4 | skip
                  first
                  | (exfalso; omega)
                  | (exfalso; simp [eqX] at hc4; done)
                  | contradiction
                  | skip
                    refine Zac rfl rfl rfl ?_; refine Zac rfl rfl rfl ?_; refine Zac rfl rfl rfl ?_; refine Zac rfl rfl rfl ?_; refine Zac rfl rfl rfl ?_; refine Zag rfl rfl rfl rfl rfl ?_; refine Zf rfl rfl rfl rfl ?_; refine Zg ?_; refine Zd ?_; refine Zj ?_; refine Za (l := [0, 1, 2, 3, 4]) rfl ?_; refine Zc rfl rfl rfl rfl ?_; refine Zc rfl rfl rfl rfl ?_; refine Zq rfl rfl rfl rfl F.elem25 (by first | rfl | exact (Int.toNat_of_nonneg (by omega)).symm) (by first | omega | (simp; done) | (simp; omega)) (by first | exact ⟨_, _, rfl⟩ | assumption | exact SlM.plain (by assumption) (by first | (simp; done) | (simp; omega)) | exact RdS.plain (by assumption) (by first | (simp; done) | (simp; omega)) | exact OSl.plain (by assumption) (by first | (simp; done) | (simp; omega))) rfl ?_
                    first | refine Zab rfl rfl rfl (by repeat first | exact List.Mem.head _ | refine List.Mem.tail _ ?_ | refine List.mem_append_right _ ?_) F.lay30 rfl rfl rfl ?_ | refine Zp rfl rfl rfl (by first | assumption | exact SlM.mono (by assumption) (by assumption)) (by first | exact Zb (by omega) | exact List.getElem?_eq_getElem (by omega) | exact rfl | exact Zb (by first | (simp; done) | (simp; omega))) F.lay30 rfl rfl rfl ?_ | refine Zo rfl rfl rfl (by assumption) (by first | exact Zb (by omega) | exact List.getElem?_eq_getElem (by omega) | exact rfl | exact Zb (by first | (simp; done) | (simp; omega))) F.lay30 rfl rfl rfl ?_ | refine Zm rfl rfl rfl (by first | assumption | exact Mem.get_of (by assumption) (by repeat first | assumption | refine Mem.le.trans (by assumption) ?_)) F.lay30 rfl rfl rfl ?_ | refine Zl rfl rfl rfl (by assumption) (by repeat first | exact Rem.here _ | exact Rem.two | apply Rem.skip | apply Rem.over) (by first | exact Zb (by omega) | exact List.getElem?_eq_getElem (by omega) | exact rfl | exact Zb (by first | (simp; done) | (simp; omega))) F.lay30 rfl rfl rfl ?_ | refine Zn rfl rfl rfl (by repeat first | exact List.Mem.head _ | refine List.Mem.tail _ ?_ | refine List.mem_append_right _ ?_) F.lay30 (by first | exact Zat (by first | omega | decide) | exact Zai (by first | omega | decide)) rfl ?_
                    refine Zbh rfl rfl rfl rfl Tryd.underlying30 (Zbq hvj) rfl ?_; refine Zg ?_; refine Zd ?_
                    refine Zae rfl (fun hc5 => ?_) (fun hc5 => ?_)
                    · first | replace hc5 := dT hc5 | replace hc5 := dF hc5 | replace hc5 := nT hc5 | replace hc5 := nF hc5 | skip
                      first
                      | (exfalso; omega)
                      | (exfalso; simp [eqX] at hc5; done)
                      | contradiction
                      | skip
                        refine Za (l := [0, 1, 2, 3, 4, 5]) rfl ?_; refine Zc rfl rfl rfl rfl ?_; refine Zc rfl rfl rfl rfl ?_; refine Zq rfl rfl rfl rfl F.elem25 (by first | rfl | exact (Int.toNat_of_nonneg (by omega)).symm) (by first | omega | (simp; done) | (simp; omega)) (by first | exact ⟨_, _, rfl⟩ | assumption | exact SlM.plain (by assumption) (by first | (simp; done) | (simp; omega)) | exact RdS.plain (by assumption) (by first | (simp; done) | (simp; omega)) | exact OSl.plain (by assumption) (by first | (simp; done) | (simp; omega))) rfl ?_
                        first | refine Zab rfl rfl rfl (by repeat first | exact List.Mem.head _ | refine List.Mem.tail _ ?_ | refine List.mem_append_right _ ?_) F.lay30 rfl rfl rfl ?_ | refine Zp rfl rfl rfl (by first | assumption | exact SlM.mono (by assumption) (by assumption)) (by first | exact Zb (by omega) | exact List.getElem?_eq_getElem (by omega) | exact rfl | exact Zb (by first | (simp; done) | (simp; omega))) F.lay30 rfl rfl rfl ?_ | refine Zo rfl rfl rfl (by assumption) (by first | exact Zb (by omega) | exact List.getElem?_eq_getElem (by omega) | exact rfl | exact Zb (by first | (simp; done) | (simp; omega))) F.lay30 rfl rfl rfl ?_ | refine Zm rfl rfl rfl (by first | assumption | exact Mem.get_of (by assumption) (by repeat first | assumption | refine Mem.le.trans (by assumption) ?_)) F.lay30 rfl rfl rfl ?_ | refine Zl rfl rfl rfl (by assumption) (by repeat first | exact Rem.here _ | exact Rem.two | apply Rem.skip | apply Rem.over) (by first | exact Zb (by omega) | exact List.getElem?_eq_getElem (by omega) | exact rfl | exact Zb (by first | (simp; done) | (simp; omega))) F.lay30 rfl rfl rfl ?_ | refine Zn rfl rfl rfl (by repeat first | exact List.Mem.head _ | refine List.Mem.tail _ ?_ | refine List.mem_append_right _ ?_) F.lay30 (by first | exact Zat (by first | omega | decide) | exact Zai (by first | omega | decide)) rfl ?_
                        refine X_fs rfl rfl F.ok9 rfl (Zbl M2 hW2.e es[j9] _ hvj) rfl ?_
                        rintro _ rfl
                        refine Zf rfl rfl rfl rfl ?_; refine Zg ?_; refine Zaw ?_; refine Zd ?_; refine Za (l := [0, 1, 2]) rfl ?_; refine Zc rfl rfl rfl rfl ?_; refine Zbe rfl rfl rfl rfl rfl (by first | exact Zak (by decide) (by omega) | exact Zr (by decide) (by omega) | exact Zu (by decide) (by omega) | exact Zs (by decide) (by omega) | exact Zz _ | exact Zaj _ | exact Zaa _ | exact rfl) rfl ?_; refine Zf rfl rfl rfl rfl ?_; refine Zg ?_; refine Zav (a' := [(11, _), (8, _), (9, _), (10, _)]) (0) (.cons (k := 11) rfl (.cons (k := 8) rfl (.cons (k := 9) rfl (.cons (k := 10) rfl (.cons (k := 7) rfl (.cons (k := 5) rfl (.cons (k := 4) rfl (.cons (k := 1) rfl (.nil))))))))) (fun w hw => by first | exact hw | exact hw.cnt (by intro zz; first | exact Nat.le_refl _ | (simp only [Zh, Ze, Zi, cat, List.append_eq, List.append_assoc, List.cons_append, List.nil_append, List.append_nil]; omega) | (simp only [Zh, Ze, Zi, cat, List.append_eq, List.append_assoc, List.cons_append, List.nil_append, List.append_nil, StepL06V.segs]; omega))) ?_ ?_
                        · exfalso; omega
                        · omega
                    · first | replace hc5 := dT hc5 | replace hc5 := dF hc5 | replace hc5 := nT hc5 | replace hc5 := nF hc5 | skip
                      first
                      | (exfalso; omega)
                      | (exfalso; simp [eqX] at hc5; done)
                      | contradiction
                      | skip
                        refine Zy ?_; refine Zaw ?_; refine Zd ?_; refine Za (l := [0, 1, 2]) rfl ?_; refine Zc rfl rfl rfl rfl ?_; refine Zbe rfl rfl rfl rfl rfl (by first | exact Zak (by decide) (by omega) | exact Zr (by decide) (by omega) | exact Zu (by decide) (by omega) | exact Zs (by decide) (by omega) | exact Zz _ | exact Zaj _ | exact Zaa _ | exact rfl) rfl ?_; refine Zf rfl rfl rfl rfl ?_; refine Zg ?_; refine Zav (a' := [(11, _), (8, _), (9, _), (10, _)]) (0) (.cons (k := 11) rfl (.cons (k := 8) rfl (.cons (k := 9) rfl (.cons (k := 10) rfl (.cons (k := 7) rfl (.cons (k := 5) rfl (.cons (k := 4) rfl (.cons (k := 1) rfl (.nil))))))))) (fun w hw => by first | exact hw | exact hw.cnt (by intro zz; first | exact Nat.le_refl _ | (simp only [Zh, Ze, Zi, cat, List.append_eq, List.append_assoc, List.cons_append, List.nil_append, List.append_nil]; omega) | (simp only [Zh, Ze, Zi, cat, List.append_eq, List.append_assoc, List.cons_append, List.nil_append, List.append_nil, StepL06V.segs]; omega))) ?_ ?_
                        · exfalso; omega
                        · omega
                · first | replace hc4 := dT hc4 | replace hc4 := dF hc4 | replace hc4 := nT hc4 | replace hc4 := nF hc4 | skip
                  first
                  | (exfalso; omega)
                  | (exfalso; simp [eqX] at hc4; done)
                  | contradiction
                  | skip
                    refine Zc rfl rfl rfl rfl ?_; refine Zc rfl rfl rfl rfl ?_; refine Zq rfl rfl rfl rfl F.elem25 (by first | rfl | exact (Int.toNat_of_nonneg (by omega)).symm) (by first | omega | (simp; done) | (simp; omega)) (by first | exact ⟨_, _, rfl⟩ | assumption | exact SlM.plain (by assumption) (by first | (simp; done) | (simp; omega)) | exact RdS.plain (by assumption) (by first | (simp; done) | (simp; omega)) | exact OSl.plain (by assumption) (by first | (simp; done) | (simp; omega))) rfl ?_
                    first | refine Zab rfl rfl rfl (by repeat first | exact List.Mem.head _ | refine List.Mem.tail _ ?_ | refine List.mem_append_right _ ?_) F.lay30 rfl rfl rfl ?_ | refine Zp rfl rfl rfl (by first | assumption | exact SlM.mono (by assumption) (by assumption)) (by first | exact Zb (by omega) | exact List.getElem?_eq_getElem (by omega) | exact rfl | exact Zb (by first | (simp; done) | (simp; omega))) F.lay30 rfl rfl rfl ?_ | refine Zo rfl rfl rfl (by assumption) (by first | exact Zb (by omega) | exact List.getElem?_eq_getElem (by omega) | exact rfl | exact Zb (by first | (simp; done) | (simp; omega))) F.lay30 rfl rfl rfl ?_ | refine Zm rfl rfl rfl (by first | assumption | exact Mem.get_of (by assumption) (by repeat first | assumption | refine Mem.le.trans (by assumption) ?_)) F.lay30 rfl rfl rfl ?_ | refine Zl rfl rfl rfl (by assumption) (by repeat first | exact Rem.here _ | exact Rem.two | apply Rem.skip | apply Rem.over) (by first | exact Zb (by omega) | exact List.getElem?_eq_getElem (by omega) | exact rfl | exact Zb (by first | (simp; done) | (simp; omega))) F.lay30 rfl rfl rfl ?_ | refine Zn rfl rfl rfl (by repeat first | exact List.Mem.head _ | refine List.Mem.tail _ ?_ | refine List.mem_append_right _ ?_) F.lay30 (by first | exact Zat (by first | omega | decide) | exact Zai (by first | omega | decide)) rfl ?_
                    refine X_fs rfl rfl F.ok13 rfl (bAgain_o M2 es[j9] _ hvj) rfl ?_
                    rintro _ rfl
                    refine Zag rfl rfl rfl rfl rfl ?_; refine Zf rfl rfl rfl rfl ?_; refine Zg ?_; refine Zd ?_; refine Zj ?_; refine Za (l := [0, 1, 2, 3, 4]) rfl ?_; refine Zc rfl rfl rfl rfl ?_; refine Zc rfl rfl rfl rfl ?_; refine Zq rfl rfl rfl rfl F.elem25 (by first | rfl | exact (Int.toNat_of_nonneg (by omega)).symm) (by first | omega | (simp; done) | (simp; omega)) (by first | exact ⟨_, _, rfl⟩ | assumption | exact SlM.plain (by assumption) (by first | (simp; done) | (simp; omega)) | exact RdS.plain (by assumption) (by first | (simp; done) | (simp; omega)) | exact OSl.plain (by assumption) (by first | (simp; done) | (simp; omega))) rfl ?_
                    first | refine Zab rfl rfl rfl (by repeat first | exact List.Mem.head _ | refine List.Mem.tail _ ?_ | refine List.mem_append_right _ ?_) F.lay30 rfl rfl rfl ?_ | refine Zp rfl rfl rfl (by first | assumption | exact SlM.mono (by assumption) (by assumption)) (by first | exact Zb (by omega) | exact List.getElem?_eq_getElem (by omega) | exact rfl | exact Zb (by first | (simp; done) | (simp; omega))) F.lay30 rfl rfl rfl ?_ | refine Zo rfl rfl rfl (by assumption) (by first | exact Zb (by omega) | exact List.getElem?_eq_getElem (by omega) | exact rfl | exact Zb (by first | (simp; done) | (simp; omega))) F.lay30 rfl rfl rfl ?_ | refine Zm rfl rfl rfl (by first | assumption | exact Mem.get_of (by assumption) (by repeat first | assumption | refine Mem.le.trans (by assumption) ?_)) F.lay30 rfl rfl rfl ?_ | refine Zl rfl rfl rfl (by assumption) (by repeat first | exact Rem.here _ | exact Rem.two | apply Rem.skip | apply Rem.over) (by first | exact Zb (by omega) | exact List.getElem?_eq_getElem (by omega) | exact rfl | exact Zb (by first | (simp; done) | (simp; omega))) F.lay30 rfl rfl rfl ?_ | refine Zn rfl rfl rfl (by repeat first | exact List.Mem.head _ | refine List.Mem.tail _ ?_ | refine List.mem_append_right _ ?_) F.lay30 (by first | exact Zat (by first | omega | decide) | exact Zai (by first | omega | decide)) rfl ?_
                    refine Zbh rfl rfl rfl rfl Tryd.underlying30 (Zbq hvj) rfl ?_; refine Zg ?_; refine Zd ?_
                    refine Zae rfl (fun hc6 => ?_) (fun hc6 => ?_)
                    · first | replace hc6 := dT hc6 | replace hc6 := dF hc6 | replace hc6 := nT hc6 | replace hc6 := nF hc6 | skip
                      first
                      | (exfalso; omega)
                      | (exfalso; simp [eqX] at hc6; done)
                      | contradiction
                      | skip
                        refine Za (l := [0, 1, 2, 3, 4, 5]) rfl ?_; refine Zc rfl rfl rfl rfl ?_; refine Zc rfl rfl rfl rfl ?_; refine Zq rfl rfl rfl rfl F.elem25 (by first | rfl | exact (Int.toNat_of_nonneg (by omega)).symm) (by first | omega | (simp; done) | (simp; omega)) (by first | exact ⟨_, _, rfl⟩ | assumption | exact SlM.plain (by assumption) (by first | (simp; done) | (simp; omega)) | exact RdS.plain (by assumption) (by first | (simp; done) | (simp; omega)) | exact OSl.plain (by assumption) (by first | (simp; done) | (simp; omega))) rfl ?_
                        first | refine Zab rfl rfl rfl (by repeat first | exact List.Mem.head _ | refine List.Mem.tail _ ?_ | refine List.mem_append_right _ ?_) F.lay30 rfl rfl rfl ?_ | refine Zp rfl rfl rfl (by first | assumption | exact SlM.mono (by assumption) (by assumption)) (by first | exact Zb (by omega) | exact List.getElem?_eq_getElem (by omega) | exact rfl | exact Zb (by first | (simp; done) | (simp; omega))) F.lay30 rfl rfl rfl ?_ | refine Zo rfl rfl rfl (by assumption) (by first | exact Zb (by omega) | exact List.getElem?_eq_getElem (by omega) | exact rfl | exact Zb (by first | (simp; done) | (simp; omega))) F.lay30 rfl rfl rfl ?_ | refine Zm rfl rfl rfl (by first | assumption | exact Mem.get_of (by assumption) (by repeat first | assumption | refine Mem.le.trans (by assumption) ?_)) F.lay30 rfl rfl rfl ?_ | refine Zl rfl rfl rfl (by assumption) (by repeat first | exact Rem.here _ | exact Rem.two | apply Rem.skip | apply Rem.over) (by first | exact Zb (by omega) | exact List.getElem?_eq_getElem (by omega) | exact rfl | exact Zb (by first | (simp; done) | (simp; omega))) F.lay30 rfl rfl rfl ?_ | refine Zn rfl rfl rfl (by repeat first | exact List.Mem.head _ | refine List.Mem.tail _ ?_ | refine List.mem_append_right _ ?_) F.lay30 (by first | exact Zat (by first | omega | decide) | exact Zai (by first | omega | decide)) rfl ?_
                        refine X_fs rfl rfl F.ok9 rfl (Zbl M2 hW2.e es[j9] _ hvj) rfl ?_
                        rintro _ rfl
                        refine Zf rfl rfl rfl rfl ?_; refine Zg ?_; refine Zaw ?_; refine Zd ?_; refine Za (l := [0, 1, 2]) rfl ?_; refine Zc rfl rfl rfl rfl ?_; refine Zbe rfl rfl rfl rfl rfl (by first | exact Zak (by decide) (by omega) | exact Zr (by decide) (by omega) | exact Zu (by decide) (by omega) | exact Zs (by decide) (by omega) | exact Zz _ | exact Zaj _ | exact Zaa _ | exact rfl) rfl ?_; refine Zf rfl rfl rfl rfl ?_; refine Zg ?_; refine Zav (a' := [(11, _), (8, _), (9, _), (10, _)]) (0) (.cons (k := 11) rfl (.cons (k := 8) rfl (.cons (k := 9) rfl (.cons (k := 10) rfl (.cons (k := 7) rfl (.cons (k := 5) rfl (.cons (k := 4) rfl (.cons (k := 1) rfl (.nil))))))))) (fun w hw => by first | exact hw | exact hw.cnt (by intro zz; first | exact Nat.le_refl _ | (simp only [Zh, Ze, Zi, cat, List.append_eq, List.append_assoc, List.cons_append, List.nil_append, List.append_nil]; omega) | (simp only [Zh, Ze, Zi, cat, List.append_eq, List.append_assoc, List.cons_append, List.nil_append, List.append_nil, StepL06V.segs]; omega))) ?_ ?_
                        · exfalso; omega
                        · omega
                    · first | replace hc6 := dT hc6 | replace hc6 := dF hc6 | replace hc6 := nT hc6 | replace hc6 := nF hc6 | skip
                      first
                      | (exfalso; omega)
                      | (exfalso; simp [eqX] at hc6; done)
                      | contradiction
                      | skip
                        refine Zy ?_; refine Zaw ?_; refine Zd ?_; refine Za (l := [0, 1, 2]) rfl ?_; refine Zc rfl rfl rfl rfl ?_; refine Zbe rfl rfl rfl rfl rfl (by first | exact Zak (by decide) (by omega) | exact Zr (by decide) (by omega) | exact Zu (by decide) (by omega) | exact Zs (by decide) (by omega) | exact Zz _ | exact Zaj _ | exact Zaa _ | exact rfl) rfl ?_; refine Zf rfl rfl rfl rfl ?_; refine Zg ?_; refine Zav (a' := [(11, _), (8, _), (9, _), (10, _)]) (0) (.cons (k := 11) rfl (.cons (k := 8) rfl (.cons (k := 9) rfl (.cons (k := 10) rfl (.cons (k := 7) rfl (.cons (k := 5) rfl (.cons (k := 4) rfl (.cons (k := 1) rfl (.nil))))))))) (fun w hw => by first | exact hw | exact hw.cnt (by intro zz; first | exact Nat.le_refl _ | (simp only [Zh, Ze, Zi, cat, List.append_eq, List.append_assoc, List.cons_append, List.nil_append, List.append_nil]; omega) | (simp only [Zh, Ze, Zi, cat, List.append_eq, List.append_assoc, List.cons_append, List.nil_append, List.append_nil, StepL06V.segs]; omega))) ?_ ?_
                        · exfalso; omega
                        · omega
            · first | replace hc3 := dT hc3 | replace hc3 := dF hc3 | replace hc3 := nT hc3 | replace hc3 := nF hc3 | skip
              first
              | (exfalso; omega)
              | (exfalso; simp [eqX] at hc3; done)
              | contradiction
              | skip
                refine Zc rfl rfl rfl rfl ?_; refine Zc rfl rfl rfl rfl ?_; refine Zq rfl rfl rfl rfl F.elem25 (by first | rfl | exact (Int.toNat_of_nonneg (by omega)).symm) (by first | omega | (simp; done) | (simp; omega)) (by first | exact ⟨_, _, rfl⟩ | assumption | exact SlM.plain (by assumption) (by first | (simp; done) | (simp; omega)) | exact RdS.plain (by assumption) (by first | (simp; done) | (simp; omega)) | exact OSl.plain (by assumption) (by first | (simp; done) | (simp; omega))) rfl ?_
                first | refine Zab rfl rfl rfl (by repeat first | exact List.Mem.head _ | refine List.Mem.tail _ ?_ | refine List.mem_append_right _ ?_) F.lay30 rfl rfl rfl ?_ | refine Zp rfl rfl rfl (by first | assumption | exact SlM.mono (by assumption) (by assumption)) (by first | exact Zb (by omega) | exact List.getElem?_eq_getElem (by omega) | exact rfl | exact Zb (by first | (simp; done) | (simp; omega))) F.lay30 rfl rfl rfl ?_ | refine Zo rfl rfl rfl (by assumption) (by first | exact Zb (by omega) | exact List.getElem?_eq_getElem (by omega) | exact rfl | exact Zb (by first | (simp; done) | (simp; omega))) F.lay30 rfl rfl rfl ?_ | refine Zm rfl rfl rfl (by first | assumption | exact Mem.get_of (by assumption) (by repeat first | assumption | refine Mem.le.trans (by assumption) ?_)) F.lay30 rfl rfl rfl ?_ | refine Zl rfl rfl rfl (by assumption) (by repeat first | exact Rem.here _ | exact Rem.two | apply Rem.skip | apply Rem.over) (by first | exact Zb (by omega) | exact List.getElem?_eq_getElem (by omega) | exact rfl | exact Zb (by first | (simp; done) | (simp; omega))) F.lay30 rfl rfl rfl ?_ | refine Zn rfl rfl rfl (by repeat first | exact List.Mem.head _ | refine List.Mem.tail _ ?_ | refine List.mem_append_right _ ?_) F.lay30 (by first | exact Zat (by first | omega | decide) | exact Zai (by first | omega | decide)) rfl ?_
                refine Zc rfl rfl rfl rfl ?_; refine X_fs rfl rfl F.ok11 rfl (Zbt M2 c es[j9] _ hvj) rfl ?_
                rintro _ rfl
                refine Zag rfl rfl rfl rfl rfl ?_; refine Zf rfl rfl rfl rfl ?_; refine Zg ?_; refine Zd ?_; refine Zj ?_; refine Za (l := [0, 1, 2, 3, 4, 5, 6, 7, 8]) rfl ?_; refine Zc rfl rfl rfl rfl ?_; refine Zc rfl rfl rfl rfl ?_
                refine Zbn 39 rfl (fun hc7 => ?_) (fun hc7 => ?_)
                · first | replace hc7 := dT hc7 | replace hc7 := dF hc7 | replace hc7 := nT hc7 | replace hc7 := nF hc7 | skip
                  first
                  | (exfalso; omega)
                  | (exfalso; simp [eqX] at hc7; done)
                  | contradiction
                  | skip
                    refine Zac rfl rfl rfl ?_; refine Zac rfl rfl rfl ?_; refine Zac rfl rfl rfl ?_; refine Zac rfl rfl rfl ?_; refine Zac rfl rfl rfl ?_; refine Zag rfl rfl rfl rfl rfl ?_; refine Zf rfl rfl rfl rfl ?_; refine Zg ?_; refine Zd ?_; refine Zj ?_; refine Za (l := [0, 1, 2, 3, 4]) rfl ?_; refine Zc rfl rfl rfl rfl ?_; refine Zc rfl rfl rfl rfl ?_; refine Zq rfl rfl rfl rfl F.elem25 (by first | rfl | exact (Int.toNat_of_nonneg (by omega)).symm) (by first | omega | (simp; done) | (simp; omega)) (by first | exact ⟨_, _, rfl⟩ | assumption | exact SlM.plain (by assumption) (by first | (simp; done) | (simp; omega)) | exact RdS.plain (by assumption) (by first | (simp; done) | (simp; omega)) | exact OSl.plain (by assumption) (by first | (simp; done) | (simp; omega))) rfl ?_
                    first | refine Zab rfl rfl rfl (by repeat first | exact List.Mem.head _ | refine List.Mem.tail _ ?_ | refine List.mem_append_right _ ?_) F.lay30 rfl rfl rfl ?_ | refine Zp rfl rfl rfl (by first | assumption | exact SlM.mono (by assumption) (by assumption)) (by first | exact Zb (by omega) | exact List.getElem?_eq_getElem (by omega) | exact rfl | exact Zb (by first | (simp; done) | (simp; omega))) F.lay30 rfl rfl rfl ?_ | refine Zo rfl rfl rfl (by assumption) (by first | exact Zb (by omega) | exact List.getElem?_eq_getElem (by omega) | exact rfl | exact Zb (by first | (simp; done) | (simp; omega))) F.lay30 rfl rfl rfl ?_ | refine Zm rfl rfl rfl (by first | assumption | exact Mem.get_of (by assumption) (by repeat first | assumption | refine Mem.le.trans (by assumption) ?_)) F.lay30 rfl rfl rfl ?_ | refine Zl rfl rfl rfl (by assumption) (by repeat first | exact Rem.here _ | exact Rem.two | apply Rem.skip | apply Rem.over) (by first | exact Zb (by omega) | exact List.getElem?_eq_getElem (by omega) | exact rfl | exact Zb (by first | (simp; done) | (simp; omega))) F.lay30 rfl rfl rfl ?_ | refine Zn rfl rfl rfl (by repeat first | exact List.Mem.head _ | refine List.Mem.tail _ ?_ | refine List.mem_append_right _ ?_) F.lay30 (by first | exact Zat (by first | omega | decide) | exact Zai (by first | omega | decide)) rfl ?_
                    refine Zbh rfl rfl rfl rfl Tryd.underlying30 (Zbq hvj) rfl ?_; refine Zg ?_; refine Zd ?_
                    refine Zae rfl (fun hc8 => ?_) (fun hc8 => ?_)
                    · first | replace hc8 := dT hc8 | replace hc8 := dF hc8 | replace hc8 := nT hc8 | replace hc8 := nF hc8 | skip
                      first
                      | (exfalso; omega)
                      | (exfalso; simp [eqX] at hc8; done)
                      | contradiction
                      | skip
                        refine Za (l := [0, 1, 2, 3, 4, 5]) rfl ?_; refine Zc rfl rfl rfl rfl ?_; refine Zc rfl rfl rfl rfl ?_; refine Zq rfl rfl rfl rfl F.elem25 (by first | rfl | exact (Int.toNat_of_nonneg (by omega)).symm) (by first | omega | (simp; done) | (simp; omega)) (by first | exact ⟨_, _, rfl⟩ | assumption | exact SlM.plain (by assumption) (by first | (simp; done) | (simp; omega)) | exact RdS.plain (by assumption) (by first | (simp; done) | (simp; omega)) | exact OSl.plain (by assumption) (by first | (simp; done) | (simp; omega))) rfl ?_
                        first | refine Zab rfl rfl rfl (by repeat first | exact List.Mem.head _ | refine List.Mem.tail _ ?_ | refine List.mem_append_right _ ?_) F.lay30 rfl rfl rfl ?_ | refine Zp rfl rfl rfl (by first | assumption | exact SlM.mono (by assumption) (by assumption)) (by first | exact Zb (by omega) | exact List.getElem?_eq_getElem (by omega) | exact rfl | exact Zb (by first | (simp; done) | (simp; omega))) F.lay30 rfl rfl rfl ?_ | refine Zo rfl rfl rfl (by assumption) (by first | exact Zb (by omega) | exact List.getElem?_eq_getElem (by omega) | exact rfl | exact Zb (by first | (simp; done) | (simp; omega))) F.lay30 rfl rfl rfl ?_ | refine Zm rfl rfl rfl (by first | assumption | exact Mem.get_of (by assumption) (by repeat first | assumption | refine Mem.le.trans (by assumption) ?_)) F.lay30 rfl rfl rfl ?_ | refine Zl rfl rfl rfl (by assumption) (by repeat first | exact Rem.here _ | exact Rem.two | apply Rem.skip | apply Rem.over) (by first | exact Zb (by omega) | exact List.getElem?_eq_getElem (by omega) | exact rfl | exact Zb (by first | (simp; done) | (simp; omega))) F.lay30 rfl rfl rfl ?_ | refine Zn rfl rfl rfl (by repeat first | exact List.Mem.head _ | refine List.Mem.tail _ ?_ | refine List.mem_append_right _ ?_) F.lay30 (by first | exact Zat (by first | omega | decide) | exact Zai (by first | omega | decide)) rfl ?_
                        refine X_fs rfl rfl F.ok9 rfl (Zbl M2 hW2.e es[j9] _ hvj) rfl ?_
                        rintro _ rfl
                        refine Zf rfl rfl rfl rfl ?_; refine Zg ?_; refine Zaw ?_; refine Zd ?_; refine Za (l := [0, 1, 2]) rfl ?_; refine Zc rfl rfl rfl rfl ?_; refine Zbe rfl rfl rfl rfl rfl (by first | exact Zak (by decide) (by omega) | exact Zr (by decide) (by omega) | exact Zu (by decide) (by omega) | exact Zs (by decide) (by omega) | exact Zz _ | exact Zaj _ | exact Zaa _ | exact rfl) rfl ?_; refine Zf rfl rfl rfl rfl ?_; refine Zg ?_; refine Zav (a' := [(11, _), (8, _), (9, _), (10, _)]) (0) (.cons (k := 11) rfl (.cons (k := 8) rfl (.cons (k := 9) rfl (.cons (k := 10) rfl (.cons (k := 7) rfl (.cons (k := 5) rfl (.cons (k := 4) rfl (.cons (k := 1) rfl (.nil))))))))) (fun w hw => by first | exact hw | exact hw.cnt (by intro zz; first | exact Nat.le_refl _ | (simp only [Zh, Ze, Zi, cat, List.append_eq, List.append_assoc, List.cons_append, List.nil_append, List.append_nil]; omega) | (simp only [Zh, Ze, Zi, cat, List.append_eq, List.append_assoc, List.cons_append, List.nil_append, List.append_nil, StepL06V.segs]; omega))) ?_ ?_
                        · exfalso; omega
                        · omega
                    · first | replace hc8 := dT hc8 | replace hc8 := dF hc8 | replace hc8 := nT hc8 | replace hc8 := nF hc8 | skip
                      first
                      | (exfalso; omega)
                      | (exfalso; simp [eqX] at hc8; done)
                      | contradiction
                      | skip
                        refine Zy ?_; refine Zaw ?_; refine Zd ?_; refine Za (l := [0, 1, 2]) rfl ?_; refine Zc rfl rfl rfl rfl ?_; refine Zbe rfl rfl rfl rfl rfl (by first | exact Zak (by decide) (by omega) | exact Zr (by decide) (by omega) | exact Zu (by decide) (by omega) | exact Zs (by decide) (by omega) | exact Zz _ | exact Zaj _ | exact Zaa _ | exact rfl) rfl ?_; refine Zf rfl rfl rfl rfl ?_; refine Zg ?_; refine Zav (a' := [(11, _), (8, _), (9, _), (10, _)]) (0) (.cons (k := 11) rfl (.cons (k := 8) rfl (.cons (k := 9) rfl (.cons (k := 10) rfl (.cons (k := 7) rfl (.cons (k := 5) rfl (.cons (k := 4) rfl (.cons (k := 1) rfl (.nil))))))))) (fun w hw => by first | exact hw | exact hw.cnt (by intro zz; first | exact Nat.le_refl _ | (simp only [Zh, Ze, Zi, cat, List.append_eq, List.append_assoc, List.cons_append, List.nil_append, List.append_nil]; omega) | (simp only [Zh, Ze, Zi, cat, List.append_eq, List.append_assoc, List.cons_append, List.nil_append, List.append_nil, StepL06V.segs]; omega))) ?_ ?_
                        · exfalso; omega
                        · omega
                · first | replace hc7 := dT hc7 | replace hc7 := dF hc7 | replace hc7 := nT hc7 | replace hc7 := nF hc7 | skip
                  first
                  | (exfalso; omega)
                  | (exfalso; simp [eqX] at hc7; done)
                  | contradiction
                  | skip
                    refine Zc rfl rfl rfl rfl ?_; refine Zc rfl rfl rfl rfl ?_; refine Zq rfl rfl rfl rfl F.elem25 (by first | rfl | exact (Int.toNat_of_nonneg (by omega)).symm) (by first | omega | (simp; done) | (simp; omega)) (by first | exact ⟨_, _, rfl⟩ | assumption | exact SlM.plain (by assumption) (by first | (simp; done) | (simp; omega)) | exact RdS.plain (by assumption) (by first | (simp; done) | (simp; omega)) | exact OSl.plain (by assumption) (by first | (simp; done) | (simp; omega))) rfl ?_
                    first | refine Zab rfl rfl rfl (by repeat first | exact List.Mem.head _ | refine List.Mem.tail _ ?_ | refine List.mem_append_right _ ?_) F.lay30 rfl rfl rfl ?_ | refine Zp rfl rfl rfl (by first | assumption | exact SlM.mono (by assumption) (by assumption)) (by first | exact Zb (by omega) | exact List.getElem?_eq_getElem (by omega) | exact rfl | exact Zb (by first | (simp; done) | (simp; omega))) F.lay30 rfl rfl rfl ?_ | refine Zo rfl rfl rfl (by assumption) (by first | exact Zb (by omega) | exact List.getElem?_eq_getElem (by omega) | exact rfl | exact Zb (by first | (simp; done) | (simp; omega))) F.lay30 rfl rfl rfl ?_ | refine Zm rfl rfl rfl (by first | assumption | exact Mem.get_of (by assumption) (by repeat first | assumption | refine Mem.le.trans (by assumption) ?_)) F.lay30 rfl rfl rfl ?_ | refine Zl rfl rfl rfl (by assumption) (by repeat first | exact Rem.here _ | exact Rem.two | apply Rem.skip | apply Rem.over) (by first | exact Zb (by omega) | exact List.getElem?_eq_getElem (by omega) | exact rfl | exact Zb (by first | (simp; done) | (simp; omega))) F.lay30 rfl rfl rfl ?_ | refine Zn rfl rfl rfl (by repeat first | exact List.Mem.head _ | refine List.Mem.tail _ ?_ | refine List.mem_append_right _ ?_) F.lay30 (by first | exact Zat (by first | omega | decide) | exact Zai (by first | omega | decide)) rfl ?_
                    refine X_fs rfl rfl F.ok13 rfl (bAgain_o M2 es[j9] _ hvj) rfl ?_
                    rintro _ rfl
                    refine Zag rfl rfl rfl rfl rfl ?_; refine Zf rfl rfl rfl rfl ?_; refine Zg ?_; refine Zd ?_; refine Zj ?_; refine Za (l := [0, 1, 2, 3, 4]) rfl ?_; refine Zc rfl rfl rfl rfl ?_; refine Zc rfl rfl rfl rfl ?_; refine Zq rfl rfl rfl rfl F.elem25 (by first | rfl | exact (Int.toNat_of_nonneg (by omega)).symm) (by first | omega | (simp; done) | (simp; omega)) (by first | exact ⟨_, _, rfl⟩ | assumption | exact SlM.plain (by assumption) (by first | (simp; done) | (simp; omega)) | exact RdS.plain (by assumption) (by first | (simp; done) | (simp; omega)) | exact OSl.plain (by assumption) (by first | (simp; done) | (simp; omega))) rfl ?_
                    first | refine Zab rfl rfl rfl (by repeat first | exact List.Mem.head _ | refine List.Mem.tail _ ?_ | refine List.mem_append_right _ ?_) F.lay30 rfl rfl rfl ?_ | refine Zp rfl rfl rfl (by first | assumption | exact SlM.mono (by assumption) (by assumption)) (by first | exact Zb (by omega) | exact List.getElem?_eq_getElem (by omega) | exact rfl | exact Zb (by first | (simp; done) | (simp; omega))) F.lay30 rfl rfl rfl ?_ | refine Zo rfl rfl rfl (by assumption) (by first | exact Zb (by omega) | exact List.getElem?_eq_getElem (by omega) | exact rfl | exact Zb (by first | (simp; done) | (simp; omega))) F.lay30 rfl rfl rfl ?_ | refine Zm rfl rfl rfl (by first | assumption | exact Mem.get_of (by assumption) (by repeat first | assumption | refine Mem.le.trans (by assumption) ?_)) F.lay30 rfl rfl rfl ?_ | refine Zl rfl rfl rfl (by assumption) (by repeat first | exact Rem.here _ | exact Rem.two | apply Rem.skip | apply Rem.over) (by first | exact Zb (by omega) | exact List.getElem?_eq_getElem (by omega) | exact rfl | exact Zb (by first | (simp; done) | (simp; omega))) F.lay30 rfl rfl rfl ?_ | refine Zn rfl rfl rfl (by repeat first | exact List.Mem.head _ | refine List.Mem.tail _ ?_ | refine List.mem_append_right _ ?_) F.lay30 (by first | exact Zat (by first | omega | decide) | exact Zai (by first | omega | decide)) rfl ?_
                    refine Zbh rfl rfl rfl rfl Tryd.underlying30 (Zbq hvj) rfl ?_; refine Zg ?_; refine Zd ?_
                    refine Zae rfl (fun hc9 => ?_) (fun hc9 => ?_)
                    · first | replace hc9 := dT hc9 | replace hc9 := dF hc9 | replace hc9 := nT hc9 | replace hc9 := nF hc9 | skip
                      first
                      | (exfalso; omega)
                      | (exfalso; simp [eqX] at hc9; done)
                      | contradiction
                      | skip
                        refine Za (l := [0, 1, 2, 3, 4, 5]) rfl ?_; refine Zc rfl rfl rfl rfl ?_; refine Zc rfl rfl rfl rfl ?_; refine Zq rfl rfl rfl rfl F.elem25 (by first | rfl | exact (Int.toNat_of_nonneg (by omega)).symm) (by first | omega | (simp; done) | (simp; omega)) (by first | exact ⟨_, _, rfl⟩ | assumption | exact SlM.plain (by assumption) (by first | (simp; done) | (simp; omega)) | exact RdS.plain (by assumption) (by first | (simp; done) | (simp; omega)) | exact OSl.plain (by assumption) (by first | (simp; done) | (simp; omega))) rfl ?_
                        first | refine Zab rfl rfl rfl (by repeat first | exact List.Mem.head _ | refine List.Mem.tail _ ?_ | refine List.mem_append_right _ ?_) F.lay30 rfl rfl rfl ?_ | refine Zp rfl rfl rfl (by first | assumption | exact SlM.mono (by assumption) (by assumption)) (by first | exact Zb (by omega) | exact List.getElem?_eq_getElem (by omega) | exact rfl | exact Zb (by first | (simp; done) | (simp; omega))) F.lay30 rfl rfl rfl ?_ | refine Zo rfl rfl rfl (by assumption) (by first | exact Zb (by omega) | exact List.getElem?_eq_getElem (by omega) | exact rfl | exact Zb (by first | (simp; done) | (simp; omega))) F.lay30 rfl rfl rfl ?_ | refine Zm rfl rfl rfl (by first | assumption | exact Mem.get_of (by assumption) (by repeat first | assumption | refine Mem.le.trans (by assumption) ?_)) F.lay30 rfl rfl rfl ?_ | refine Zl rfl rfl rfl (by assumption) (by repeat first | exact Rem.here _ | exact Rem.two | apply Rem.skip | apply Rem.over) (by first | exact Zb (by omega) | exact List.getElem?_eq_getElem (by omega) | exact rfl | exact Zb (by first | (simp; done) | (simp; omega))) F.lay30 rfl rfl rfl ?_ | refine Zn rfl rfl rfl (by repeat first | exact List.Mem.head _ | refine List.Mem.tail _ ?_ | refine List.mem_append_right _ ?_) F.lay30 (by first | exact Zat (by first | omega | decide) | exact Zai (by first | omega | decide)) rfl ?_
                        refine X_fs rfl rfl F.ok9 rfl (Zbl M2 hW2.e es[j9] _ hvj) rfl ?_
                        rintro _ rfl
                        refine Zf rfl rfl rfl rfl ?_; refine Zg ?_; refine Zaw ?_; refine Zd ?_; refine Za (l := [0, 1, 2]) rfl ?_; refine Zc rfl rfl rfl rfl ?_; refine Zbe rfl rfl rfl rfl rfl (by first | exact Zak (by decide) (by omega) | exact Zr (by decide) (by omega) | exact Zu (by decide) (by omega) | exact Zs (by decide) (by omega) | exact Zz _ | exact Zaj _ | exact Zaa _ | exact rfl) rfl ?_; refine Zf rfl rfl rfl rfl ?_; refine Zg ?_; refine Zav (a' := [(11, _), (8, _), (9, _), (10, _)]) (0) (.cons (k := 11) rfl (.cons (k := 8) rfl (.cons (k := 9) rfl (.cons (k := 10) rfl (.cons (k := 7) rfl (.cons (k := 5) rfl (.cons (k := 4) rfl (.cons (k := 1) rfl (.nil))))))))) (fun w hw => by first | exact hw | exact hw.cnt (by intro zz; first | exact Nat.le_refl _ | (simp only [Zh, Ze, Zi, cat, List.append_eq, List.append_assoc, List.cons_append, List.nil_append, List.append_nil]; omega) | (simp only [Zh, Ze, Zi, cat, List.append_eq, List.append_assoc, List.cons_append, List.nil_append, List.append_nil, StepL06V.segs]; omega))) ?_ ?_
                        · exfalso; omega
                        · omega
                    · first | replace hc9 := dT hc9 | replace hc9 := dF hc9 | replace hc9 := nT hc9 | replace hc9 := nF hc9 | skip
                      first
                      | (exfalso; omega)
                      | (exfalso; simp [eqX] at hc9; done)
                      | contradiction
                      | skip
                        refine Zy ?_; refine Zaw ?_; refine Zd ?_; refine Za (l := [0, 1, 2]) rfl ?_; refine Zc rfl rfl rfl rfl ?_; refine Zbe rfl rfl rfl rfl rfl (by first | exact Zak (by decide) (by omega) | exact Zr (by decide) (by omega) | exact Zu (by decide) (by omega) | exact Zs (by decide) (by omega) | exact Zz _ | exact Zaj _ | exact Zaa _ | exact rfl) rfl ?_; refine Zf rfl rfl rfl rfl ?_; refine Zg ?_; refine Zav (a' := [(11, _), (8, _), (9, _), (10, _)]) (0) (.cons (k := 11) rfl (.cons (k := 8) rfl (.cons (k := 9) rfl (.cons (k := 10) rfl (.cons (k := 7) rfl (.cons (k := 5) rfl (.cons (k := 4) rfl (.cons (k := 1) rfl (.nil))))))))) (fun w hw => by first | exact hw | exact hw.cnt (by intro zz; first | exact Nat.le_refl _ | (simp only [Zh, Ze, Zi, cat, List.append_eq, List.append_assoc, List.cons_append, List.nil_append, List.append_nil]; omega) | (simp only [Zh, Ze, Zi, cat, List.append_eq, List.append_assoc, List.cons_append, List.nil_append, List.append_nil, StepL06V.segs]; omega))) ?_ ?_
                        · exfalso; omega
                        · omega
        · first | replace hc2 := dT hc2 | replace hc2 := dF hc2 | replace hc2 := nT hc2 | replace hc2 := nF hc2 | skip
          first
          | (exfalso; omega)
          | (exfalso; simp [eqX] at hc2; done)
          | contradiction
          | skip
            refine Zbk ?_; refine Zau ?_; refine Zau ?_; refine Zbs ?_; refine Zd ?_; refine Zk (.cons (k := 8) rfl (.cons (k := 9) rfl (.cons (k := 10) rfl (.cons (k := 7) rfl (.cons (k := 4) rfl (.cons (k := 1) rfl .nil)))))) ?_; refine Zj ?_; refine Zj ?_
            rw [List.drop_zero]
            refine Za (l := [0, 1]) rfl ?_; refine Zc rfl rfl rfl rfl ?_; refine Zas rfl rfl rfl rfl rfl rfl ?_; refine Zg ?_; refine Zd ?_; refine Zk (.cons (k := 57) rfl (.cons (k := 8) rfl (.cons (k := 9) rfl (.cons (k := 10) rfl (.cons (k := 7) rfl (.cons (k := 4) rfl (.cons (k := 1) rfl .nil))))))) ?_
            refine Zae rfl (fun hc10 => ?_) (fun hc10 => ?_)
            · first | replace hc10 := dT hc10 | replace hc10 := dF hc10 | replace hc10 := nT hc10 | replace hc10 := nF hc10 | skip
              first
              | (exfalso; omega)
              | (exfalso; simp [eqX] at hc10; done)
              | contradiction
              | skip
                refine Za (l := [0, 1, 2]) rfl ?_; refine Zc rfl rfl rfl rfl ?_; refine Zbh rfl rfl rfl rfl Tryd.underlying30 (Zbq hva) rfl ?_; refine Zf rfl rfl rfl rfl ?_; refine Zg ?_; refine Zd ?_; refine Zk (.cons (k := 8) rfl (.cons (k := 9) rfl (.cons (k := 10) rfl (.cons (k := 7) rfl (.cons (k := 4) rfl (.cons (k := 1) rfl .nil)))))) ?_; refine Zj ?_; refine Za (l := [0, 1, 2, 3, 4, 5, 6, 7, 8, 9, 10, 11, 12, 13, 14, 15, 16, 17, 18, 19, 20, 21, 22, 23, 24, 25, 26, 27, 28, 29, 30, 31, 32, 33]) rfl ?_; refine X_fn rfl rfl F.ok20 rfl (blamed_ok M2 hW2) rfl ?_
                rintro _ M3 hm3 rfl
                have hW3 := hW2.mono hm3
                refine Zc rfl rfl rfl rfl ?_; refine Zc rfl rfl rfl rfl ?_; refine Zc rfl rfl rfl rfl ?_; refine X_fs rfl rfl F.ok11 rfl (Zbt M3 c (joinO es) va (hva.mono hm3)) rfl ?_
                rintro _ rfl
                refine Zc rfl rfl rfl rfl ?_; refine Zbv rfl rfl rfl rfl rfl Tryd.underlying4 rfl ?_; refine Zbd 66 rfl (congrArg Value.bool (show _ = true by first | (rw [has_join (by assumption)]; simp [eqX]; done) | (rw [hasO, if_pos (by assumption)]; simp [eqX]; done))) ?_; refine Zag rfl rfl rfl rfl rfl ?_; refine Zc rfl rfl rfl rfl ?_; refine Zc rfl rfl rfl rfl ?_; refine X_fs rfl rfl F.ok13 rfl (bAgain_o M3 (joinO es) va (hva.mono hm3)) rfl ?_
                rintro _ rfl
                refine Zc rfl rfl rfl rfl ?_; refine Zbv rfl rfl rfl rfl rfl Tryd.underlying4 rfl ?_; refine Zbd 72 rfl (congrArg Value.bool (show _ = true by rw [again_join]; simp [eqX])) ?_; refine Zag rfl rfl rfl rfl rfl ?_; refine Zc rfl rfl rfl rfl ?_; refine Zc rfl rfl rfl rfl ?_; refine X_fs rfl rfl F.ok9 rfl (Zbl M3 hW3.e (joinO es) va (hva.mono hm3)) rfl ?_
                rintro _ rfl
                refine Zc rfl rfl rfl rfl ?_; refine Zas rfl rfl rfl rfl rfl rfl ?_; refine Zbd 78 rfl (congrArg Value.bool (show _ = true by simp)) ?_; refine Zag rfl rfl rfl rfl rfl ?_; refine Zc rfl rfl rfl rfl ?_; refine Zc rfl rfl rfl rfl ?_; refine X_fn rfl rfl F.ok16 rfl (bTrail_o M3 (joinO es) va (hva.mono hm3) (by have := wt_join es; have := hB.wt; omega)) rfl ?_
                rintro _ M4 hm4 ⟨⟨a9, c9, l9⟩, rfl, hs9, hk9⟩
                simp only at hs9
                rw [trail_join] at hs9
                have hl9 : l9.length = 0 := by rw [hs9]; rfl
                refine Zan rfl rfl rfl rfl F.elem40 rfl ?_; refine Zas rfl rfl rfl rfl rfl rfl ?_; refine Zbd 84 rfl (congrArg Value.bool (show _ = true by simp [hl9])) ?_; refine Zag rfl rfl rfl rfl rfl ?_; refine Zc rfl rfl rfl rfl ?_; refine Zc rfl rfl rfl rfl ?_; refine Zbh rfl rfl rfl rfl Tryd.underlying30 (Zbq (hva.mono hm3)) rfl ?_; refine Zc rfl rfl rfl rfl ?_; refine Zas rfl rfl rfl rfl rfl rfl ?_; refine Zbv rfl rfl rfl rfl rfl Tryd.underlying4 rfl ?_; refine Zbd 91 rfl (congrArg Value.bool (show _ = true by rw [none_join hB.ok hne]; simp [eqX])) ?_; refine Zag rfl rfl rfl rfl rfl ?_; refine Zf rfl rfl rfl rfl ?_; refine Zg ?_; refine Zd ?_; refine Zk (.cons (k := 4) rfl .nil) ?_; refine Zaq ?_
                refine Zap (.inr rfl) (.tmp rfl .nil) (fun w hw => ?_)
                exact ⟨_, _, rfl, hm1.trans (hm2.trans (hm3.trans hm4)), hw.cnt (by intro zz; first | exact Nat.le_refl _ | (simp only [Zh, Ze, Zi, cat, List.append_eq, List.append_assoc, List.cons_append, List.nil_append, List.append_nil]; omega) | (simp only [Zh, Ze, Zi, cat, List.append_eq, List.append_assoc, List.cons_append, List.nil_append, List.append_nil, StepL06V.segs]; omega)), rfl⟩
            · first | replace hc10 := dT hc10 | replace hc10 := dF hc10 | replace hc10 := nT hc10 | replace hc10 := nF hc10 | skip
              first
              | (exfalso; omega)
              | (exfalso; simp [eqX] at hc10; done)
              | contradiction
              | skip
                refine Zy ?_; refine Zd ?_; refine Zk (.cons (k := 8) rfl (.cons (k := 9) rfl (.cons (k := 10) rfl (.cons (k := 7) rfl (.cons (k := 4) rfl (.cons (k := 1) rfl .nil)))))) ?_; refine Zj ?_; refine Za (l := [0, 1, 2, 3, 4, 5, 6, 7, 8, 9, 10, 11, 12, 13, 14, 15, 16, 17, 18, 19, 20, 21, 22, 23, 24, 25, 26, 27, 28, 29, 30, 31, 32, 33]) rfl ?_; refine X_fn rfl rfl F.ok20 rfl (blamed_ok M2 hW2) rfl ?_
                rintro _ M3 hm3 rfl
                have hW3 := hW2.mono hm3
                refine Zc rfl rfl rfl rfl ?_; refine Zc rfl rfl rfl rfl ?_; refine Zc rfl rfl rfl rfl ?_; refine X_fs rfl rfl F.ok11 rfl (Zbt M3 c (joinO es) va (hva.mono hm3)) rfl ?_
                rintro _ rfl
                refine Zc rfl rfl rfl rfl ?_; refine Zbv rfl rfl rfl rfl rfl Tryd.underlying4 rfl ?_; refine Zbd 66 rfl (congrArg Value.bool (show _ = true by first | (rw [has_join (by assumption)]; simp [eqX]; done) | (rw [hasO, if_pos (by assumption)]; simp [eqX]; done))) ?_; refine Zag rfl rfl rfl rfl rfl ?_; refine Zc rfl rfl rfl rfl ?_; refine Zc rfl rfl rfl rfl ?_; refine X_fs rfl rfl F.ok13 rfl (bAgain_o M3 (joinO es) va (hva.mono hm3)) rfl ?_
                rintro _ rfl
                refine Zc rfl rfl rfl rfl ?_; refine Zbv rfl rfl rfl rfl rfl Tryd.underlying4 rfl ?_; refine Zbd 72 rfl (congrArg Value.bool (show _ = true by rw [again_join]; simp [eqX])) ?_; refine Zag rfl rfl rfl rfl rfl ?_; refine Zc rfl rfl rfl rfl ?_; refine Zc rfl rfl rfl rfl ?_; refine X_fs rfl rfl F.ok9 rfl (Zbl M3 hW3.e (joinO es) va (hva.mono hm3)) rfl ?_
                rintro _ rfl
                refine Zc rfl rfl rfl rfl ?_; refine Zas rfl rfl rfl rfl rfl rfl ?_; refine Zbd 78 rfl (congrArg Value.bool (show _ = true by simp)) ?_; refine Zag rfl rfl rfl rfl rfl ?_; refine Zc rfl rfl rfl rfl ?_; refine Zc rfl rfl rfl rfl ?_; refine X_fn rfl rfl F.ok16 rfl (bTrail_o M3 (joinO es) va (hva.mono hm3) (by have := wt_join es; have := hB.wt; omega)) rfl ?_
                rintro _ M4 hm4 ⟨⟨a9, c9, l9⟩, rfl, hs9, hk9⟩
                simp only at hs9
                rw [trail_join] at hs9
                have hl9 : l9.length = 0 := by rw [hs9]; rfl
                refine Zan rfl rfl rfl rfl F.elem40 rfl ?_; refine Zas rfl rfl rfl rfl rfl rfl ?_; refine Zbd 84 rfl (congrArg Value.bool (show _ = true by simp [hl9])) ?_; refine Zag rfl rfl rfl rfl rfl ?_; refine Zc rfl rfl rfl rfl ?_; refine Zc rfl rfl rfl rfl ?_; refine Zbh rfl rfl rfl rfl Tryd.underlying30 (Zbq (hva.mono hm3)) rfl ?_; refine Zc rfl rfl rfl rfl ?_; refine Zas rfl rfl rfl rfl rfl rfl ?_; refine Zbv rfl rfl rfl rfl rfl Tryd.underlying4 rfl ?_; refine Zbd 91 rfl (congrArg Value.bool (show _ = true by rw [none_join hB.ok hne]; simp [eqX])) ?_; refine Zag rfl rfl rfl rfl rfl ?_; refine Zf rfl rfl rfl rfl ?_; refine Zg ?_; refine Zd ?_; refine Zk (.cons (k := 4) rfl .nil) ?_; refine Zaq ?_
                refine Zap (.inr rfl) (.tmp rfl .nil) (fun w hw => ?_)
                exact ⟨_, _, rfl, hm1.trans (hm2.trans (hm3.trans hm4)), hw.cnt (by intro zz; first | exact Nat.le_refl _ | (simp only [Zh, Ze, Zi, cat, List.append_eq, List.append_assoc, List.cons_append, List.nil_append, List.append_nil]; omega) | (simp only [Zh, Ze, Zi, cat, List.append_eq, List.append_assoc, List.cons_append, List.nil_append, List.append_nil, StepL06V.segs]; omega)), rfl⟩
      · have hje : j9 < es.length := by omega
        have hjx : j9 < xl.length := by omega
        have hvj := hos.at_ j9 hje hjx
        rw [show (((j9 + 1 : Nat)) : Int) - 1 = (j9 : Int) by omega]
        refine Zj ?_; refine Zj ?_; refine Za (l := [0, 1]) rfl ?_; refine Zc rfl rfl rfl rfl ?_; refine Zas rfl rfl rfl rfl rfl rfl ?_; refine Zg ?_; refine Zd ?_
        refine Zae rfl (fun hc11 => ?_) (fun hc11 => ?_)
        · first | replace hc11 := dT hc11 | replace hc11 := dF hc11 | replace hc11 := nT hc11 | replace hc11 := nF hc11 | skip
          first
          | (exfalso; omega)
          | (exfalso; simp [eqX] at hc11; done)
          | contradiction
          | skip
            refine Zy ?_; refine Zd ?_; refine Zj ?_; refine Zx ?_; refine Zj ?_; refine Za (l := [0, 1, 2, 3, 4, 5, 6, 7, 8, 9]) rfl ?_; refine Zc rfl rfl rfl rfl ?_; refine Zc rfl rfl rfl rfl ?_
            refine Zbn 30 rfl (fun hc12 => ?_) (fun hc12 => ?_)
            · first | replace hc12 := dT hc12 | replace hc12 := dF hc12 | replace hc12 := nT hc12 | replace hc12 := nF hc12 | skip
              first
              | (exfalso; omega)
              | (exfalso; simp [eqX] at hc12; done)
              | contradiction
              | skip
                refine Zac rfl rfl rfl ?_; refine Zac rfl rfl rfl ?_; refine Zac rfl rfl rfl ?_; refine Zac rfl rfl rfl ?_; refine Zac rfl rfl rfl ?_; refine Zac rfl rfl rfl ?_; refine Zag rfl rfl rfl rfl rfl ?_; refine Zf rfl rfl rfl rfl ?_; refine Zg ?_; refine Zd ?_; refine Zj ?_; refine Za (l := [0, 1, 2, 3, 4, 5, 6, 7, 8]) rfl ?_; refine Zc rfl rfl rfl rfl ?_; refine Zc rfl rfl rfl rfl ?_
                refine Zbn 39 rfl (fun hc13 => ?_) (fun hc13 => ?_)
                · first | replace hc13 := dT hc13 | replace hc13 := dF hc13 | replace hc13 := nT hc13 | replace hc13 := nF hc13 | skip
                  first
                  | (exfalso; omega)
                  | (exfalso; simp [eqX] at hc13; done)
                  | contradiction
                  | skip
                    refine Zac rfl rfl rfl ?_; refine Zac rfl rfl rfl ?_; refine Zac rfl rfl rfl ?_; refine Zac rfl rfl rfl ?_; refine Zac rfl rfl rfl ?_; refine Zag rfl rfl rfl rfl rfl ?_; refine Zf rfl rfl rfl rfl ?_; refine Zg ?_; refine Zd ?_; refine Zj ?_; refine Za (l := [0, 1, 2, 3, 4]) rfl ?_; refine Zc rfl rfl rfl rfl ?_; refine Zc rfl rfl rfl rfl ?_; refine Zq rfl rfl rfl rfl F.elem25 (by first | rfl | exact (Int.toNat_of_nonneg (by omega)).symm) (by first | omega | (simp; done) | (simp; omega)) (by first | exact ⟨_, _, rfl⟩ | assumption | exact SlM.plain (by assumption) (by first | (simp; done) | (simp; omega)) | exact RdS.plain (by assumption) (by first | (simp; done) | (simp; omega)) | exact OSl.plain (by assumption) (by first | (simp; done) | (simp; omega))) rfl ?_
                    first | refine Zab rfl rfl rfl (by repeat first | exact List.Mem.head _ | refine List.Mem.tail _ ?_ | refine List.mem_append_right _ ?_) F.lay30 rfl rfl rfl ?_ | refine Zp rfl rfl rfl (by first | assumption | exact SlM.mono (by assumption) (by assumption)) (by first | exact Zb (by omega) | exact List.getElem?_eq_getElem (by omega) | exact rfl | exact Zb (by first | (simp; done) | (simp; omega))) F.lay30 rfl rfl rfl ?_ | refine Zo rfl rfl rfl (by assumption) (by first | exact Zb (by omega) | exact List.getElem?_eq_getElem (by omega) | exact rfl | exact Zb (by first | (simp; done) | (simp; omega))) F.lay30 rfl rfl rfl ?_ | refine Zm rfl rfl rfl (by first | assumption | exact Mem.get_of (by assumption) (by repeat first | assumption | refine Mem.le.trans (by assumption) ?_)) F.lay30 rfl rfl rfl ?_ | refine Zl rfl rfl rfl (by assumption) (by repeat first | exact Rem.here _ | exact Rem.two | apply Rem.skip | apply Rem.over) (by first | exact Zb (by omega) | exact List.getElem?_eq_getElem (by omega) | exact rfl | exact Zb (by first | (simp; done) | (simp; omega))) F.lay30 rfl rfl rfl ?_ | refine Zn rfl rfl rfl (by repeat first | exact List.Mem.head _ | refine List.Mem.tail _ ?_ | refine List.mem_append_right _ ?_) F.lay30 (by first | exact Zat (by first | omega | decide) | exact Zai (by first | omega | decide)) rfl ?_
                    refine Zbh rfl rfl rfl rfl Tryd.underlying30 (Zbq hvj) rfl ?_; refine Zg ?_; refine Zd ?_
                    refine Zae rfl (fun hc14 => ?_) (fun hc14 => ?_)
                    · first | replace hc14 := dT hc14 | replace hc14 := dF hc14 | replace hc14 := nT hc14 | replace hc14 := nF hc14 | skip
                      first
                      | (exfalso; omega)
                      | (exfalso; simp [eqX] at hc14; done)
                      | contradiction
                      | skip
                        refine Za (l := [0, 1, 2, 3, 4, 5]) rfl ?_; refine Zc rfl rfl rfl rfl ?_; refine Zc rfl rfl rfl rfl ?_; refine Zq rfl rfl rfl rfl F.elem25 (by first | rfl | exact (Int.toNat_of_nonneg (by omega)).symm) (by first | omega | (simp; done) | (simp; omega)) (by first | exact ⟨_, _, rfl⟩ | assumption | exact SlM.plain (by assumption) (by first | (simp; done) | (simp; omega)) | exact RdS.plain (by assumption) (by first | (simp; done) | (simp; omega)) | exact OSl.plain (by assumption) (by first | (simp; done) | (simp; omega))) rfl ?_
                        first | refine Zab rfl rfl rfl (by repeat first | exact List.Mem.head _ | refine List.Mem.tail _ ?_ | refine List.mem_append_right _ ?_) F.lay30 rfl rfl rfl ?_ | refine Zp rfl rfl rfl (by first | assumption | exact SlM.mono (by assumption) (by assumption)) (by first | exact Zb (by omega) | exact List.getElem?_eq_getElem (by omega) | exact rfl | exact Zb (by first | (simp; done) | (simp; omega))) F.lay30 rfl rfl rfl ?_ | refine Zo rfl rfl rfl (by assumption) (by first | exact Zb (by omega) | exact List.getElem?_eq_getElem (by omega) | exact rfl | exact Zb (by first | (simp; done) | (simp; omega))) F.lay30 rfl rfl rfl ?_ | refine Zm rfl rfl rfl (by first | assumption | exact Mem.get_of (by assumption) (by repeat first | assumption | refine Mem.le.trans (by assumption) ?_)) F.lay30 rfl rfl rfl ?_ | refine Zl rfl rfl rfl (by assumption) (by repeat first | exact Rem.here _ | exact Rem.two | apply Rem.skip | apply Rem.over) (by first | exact Zb (by omega) | exact List.getElem?_eq_getElem (by omega) | exact rfl | exact Zb (by first | (simp; done) | (simp; omega))) F.lay30 rfl rfl rfl ?_ | refine Zn rfl rfl rfl (by repeat first | exact List.Mem.head _ | refine List.Mem.tail _ ?_ | refine List.mem_append_right _ ?_) F.lay30 (by first | exact Zat (by first | omega | decide) | exact Zai (by first | omega | decide)) rfl ?_
                        refine X_fs rfl rfl F.ok9 rfl (Zbl M2 hW2.e es[j9] _ hvj) rfl ?_
                        rintro _ rfl
                        refine Zf rfl rfl rfl rfl ?_; refine Zg ?_; refine Zaw ?_; refine Zd ?_; refine Za (l := [0, 1, 2]) rfl ?_; refine Zc rfl rfl rfl rfl ?_; refine Zbe rfl rfl rfl rfl rfl (by first | exact Zak (by decide) (by omega) | exact Zr (by decide) (by omega) | exact Zu (by decide) (by omega) | exact Zs (by decide) (by omega) | exact Zz _ | exact Zaj _ | exact Zaa _ | exact rfl) rfl ?_; refine Zf rfl rfl rfl rfl ?_; refine Zg ?_; refine Zav (a' := [(11, _), (8, _), (9, _), (10, _)]) (j9) (.cons (k := 11) rfl (.cons (k := 8) rfl (.cons (k := 9) rfl (.cons (k := 10) rfl (.cons (k := 7) rfl (.cons (k := 5) rfl (.cons (k := 4) rfl (.cons (k := 1) rfl (.nil))))))))) (fun w hw => by first | exact hw | exact hw.cnt (by intro zz; first | exact Nat.le_refl _ | (simp only [Zh, Ze, Zi, cat, List.append_eq, List.append_assoc, List.cons_append, List.nil_append, List.append_nil]; omega) | (simp only [Zh, Ze, Zi, cat, List.append_eq, List.append_assoc, List.cons_append, List.nil_append, List.append_nil, StepL06V.segs]; omega))) ?_ ?_
                        · refine ⟨?_, by omega⟩
                          rw [anyH_step hje, anyA_step hje, first_step hje hne]
                          first | (simp_all; done) | (cases h9 : es[j9].isNone <;> simp_all [eqX]; done)
                        · omega
                    · first | replace hc14 := dT hc14 | replace hc14 := dF hc14 | replace hc14 := nT hc14 | replace hc14 := nF hc14 | skip
                      first
                      | (exfalso; omega)
                      | (exfalso; simp [eqX] at hc14; done)
                      | contradiction
                      | skip
                        refine Zy ?_; refine Zaw ?_; refine Zd ?_; refine Za (l := [0, 1, 2]) rfl ?_; refine Zc rfl rfl rfl rfl ?_; refine Zbe rfl rfl rfl rfl rfl (by first | exact Zak (by decide) (by omega) | exact Zr (by decide) (by omega) | exact Zu (by decide) (by omega) | exact Zs (by decide) (by omega) | exact Zz _ | exact Zaj _ | exact Zaa _ | exact rfl) rfl ?_; refine Zf rfl rfl rfl rfl ?_; refine Zg ?_; refine Zav (a' := [(11, _), (8, _), (9, _), (10, _)]) (j9) (.cons (k := 11) rfl (.cons (k := 8) rfl (.cons (k := 9) rfl (.cons (k := 10) rfl (.cons (k := 7) rfl (.cons (k := 5) rfl (.cons (k := 4) rfl (.cons (k := 1) rfl (.nil))))))))) (fun w hw => by first | exact hw | exact hw.cnt (by intro zz; first | exact Nat.le_refl _ | (simp only [Zh, Ze, Zi, cat, List.append_eq, List.append_assoc, List.cons_append, List.nil_append, List.append_nil]; omega) | (simp only [Zh, Ze, Zi, cat, List.append_eq, List.append_assoc, List.cons_append, List.nil_append, List.append_nil, StepL06V.segs]; omega))) ?_ ?_
                        · refine ⟨?_, by omega⟩
                          rw [anyH_step hje, anyA_step hje, first_step hje hne]
                          first | (simp_all; done) | (cases h9 : es[j9].isNone <;> simp_all [eqX]; done)
                        · omega
                · first | replace hc13 := dT hc13 | replace hc13 := dF hc13 | replace hc13 := nT hc13 | replace hc13 := nF hc13 | skip
                  first
                  | (exfalso; omega)
                  | (exfalso; simp [eqX] at hc13; done)
                  | contradiction
                  | skip
                    refine Zc rfl rfl rfl rfl ?_; refine Zc rfl rfl rfl rfl ?_; refine Zq rfl rfl rfl rfl F.elem25 (by first | rfl | exact (Int.toNat_of_nonneg (by omega)).symm) (by first | omega | (simp; done) | (simp; omega)) (by first | exact ⟨_, _, rfl⟩ | assumption | exact SlM.plain (by assumption) (by first | (simp; done) | (simp; omega)) | exact RdS.plain (by assumption) (by first | (simp; done) | (simp; omega)) | exact OSl.plain (by assumption) (by first | (simp; done) | (simp; omega))) rfl ?_
                    first | refine Zab rfl rfl rfl (by repeat first | exact List.Mem.head _ | refine List.Mem.tail _ ?_ | refine List.mem_append_right _ ?_) F.lay30 rfl rfl rfl ?_ | refine Zp rfl rfl rfl (by first | assumption | exact SlM.mono (by assumption) (by assumption)) (by first | exact Zb (by omega) | exact List.getElem?_eq_getElem (by omega) | exact rfl | exact Zb (by first | (simp; done) | (simp; omega))) F.lay30 rfl rfl rfl ?_ | refine Zo rfl rfl rfl (by assumption) (by first | exact Zb (by omega) | exact List.getElem?_eq_getElem (by omega) | exact rfl | exact Zb (by first | (simp; done) | (simp; omega))) F.lay30 rfl rfl rfl ?_ | refine Zm rfl rfl rfl (by first | assumption | exact Mem.get_of (by assumption) (by repeat first | assumption | refine Mem.le.trans (by assumption) ?_)) F.lay30 rfl rfl rfl ?_ | refine Zl rfl rfl rfl (by assumption) (by repeat first | exact Rem.here _ | exact Rem.two | apply Rem.skip | apply Rem.over) (by first | exact Zb (by omega) | exact List.getElem?_eq_getElem (by omega) | exact rfl | exact Zb (by first | (simp; done) | (simp; omega))) F.lay30 rfl rfl rfl ?_ | refine Zn rfl rfl rfl (by repeat first | exact List.Mem.head _ | refine List.Mem.tail _ ?_ | refine List.mem_append_right _ ?_) F.lay30 (by first | exact Zat (by first | omega | decide) | exact Zai (by first | omega | decide)) rfl ?_
                    refine X_fs rfl rfl F.ok13 rfl (bAgain_o M2 es[j9] _ hvj) rfl ?_
                    rintro _ rfl
                    refine Zag rfl rfl rfl rfl rfl ?_; refine Zf rfl rfl rfl rfl ?_; refine Zg ?_; refine Zd ?_; refine Zj ?_; refine Za (l := [0, 1, 2, 3, 4]) rfl ?_; refine Zc rfl rfl rfl rfl ?_; refine Zc rfl rfl rfl rfl ?_; refine Zq rfl rfl rfl rfl F.elem25 (by first | rfl | exact (Int.toNat_of_nonneg (by omega)).symm) (by first | omega | (simp; done) | (simp; omega)) (by first | exact ⟨_, _, rfl⟩ | assumption | exact SlM.plain (by assumption) (by first | (simp; done) | (simp; omega)) | exact RdS.plain (by assumption) (by first | (simp; done) | (simp; omega)) | exact OSl.plain (by assumption) (by first | (simp; done) | (simp; omega))) rfl ?_
                    first | refine Zab rfl rfl rfl (by repeat first | exact List.Mem.head _ | refine List.Mem.tail _ ?_ | refine List.mem_append_right _ ?_) F.lay30 rfl rfl rfl ?_ | refine Zp rfl rfl rfl (by first | assumption | exact SlM.mono (by assumption) (by assumption)) (by first | exact Zb (by omega) | exact List.getElem?_eq_getElem (by omega) | exact rfl | exact Zb (by first | (simp; done) | (simp; omega))) F.lay30 rfl rfl rfl ?_ | refine Zo rfl rfl rfl (by assumption) (by first | exact Zb (by omega) | exact List.getElem?_eq_getElem (by omega) | exact rfl | exact Zb (by first | (simp; done) | (simp; omega))) F.lay30 rfl rfl rfl ?_ | refine Zm rfl rfl rfl (by first | assumption | exact Mem.get_of (by assumption) (by repeat first | assumption | refine Mem.le.trans (by assumption) ?_)) F.lay30 rfl rfl rfl ?_ | refine Zl rfl rfl rfl (by assumption) (by repeat first | exact Rem.here _ | exact Rem.two | apply Rem.skip | apply Rem.over) (by first | exact Zb (by omega) | exact List.getElem?_eq_getElem (by omega) | exact rfl | exact Zb (by first | (simp; done) | (simp; omega))) F.lay30 rfl rfl rfl ?_ | refine Zn rfl rfl rfl (by repeat first | exact List.Mem.head _ | refine List.Mem.tail _ ?_ | refine List.mem_append_right _ ?_) F.lay30 (by first | exact Zat (by first | omega | decide) | exact Zai (by first | omega | decide)) rfl ?_
                    refine Zbh rfl rfl rfl rfl Tryd.underlying30 (Zbq hvj) rfl ?_; refine Zg ?_; refine Zd ?_
                    refine Zae rfl (fun hc15 => ?_) (fun hc15 => ?_)
                    · first | replace hc15 := dT hc15 | replace hc15 := dF hc15 | replace hc15 := nT hc15 | replace hc15 := nF hc15 | skip
                      first
                      | (exfalso; omega)
                      | (exfalso; simp [eqX] at hc15; done)
                      | contradiction
                      | skip
                        refine Za (l := [0, 1, 2, 3, 4, 5]) rfl ?_; refine Zc rfl rfl rfl rfl ?_; refine Zc rfl rfl rfl rfl ?_; refine Zq rfl rfl rfl rfl F.elem25 (by first | rfl | exact (Int.toNat_of_nonneg (by omega)).symm) (by first | omega | (simp; done) | (simp; omega)) (by first | exact ⟨_, _, rfl⟩ | assumption | exact SlM.plain (by assumption) (by first | (simp; done) | (simp; omega)) | exact RdS.plain (by assumption) (by first | (simp; done) | (simp; omega)) | exact OSl.plain (by assumption) (by first | (simp; done) | (simp; omega))) rfl ?_
                        first | refine Zab rfl rfl rfl (by repeat first | exact List.Mem.head _ | refine List.Mem.tail _ ?_ | refine List.mem_append_right _ ?_) F.lay30 rfl rfl rfl ?_ | refine Zp rfl rfl rfl (by first | assumption | exact SlM.mono (by assumption) (by assumption)) (by first | exact Zb (by omega) | exact List.getElem?_eq_getElem (by omega) | exact rfl | exact Zb (by first | (simp; done) | (simp; omega))) F.lay30 rfl rfl rfl ?_ | refine Zo rfl rfl rfl (by assumption) (by first | exact Zb (by omega) | exact List.getElem?_eq_getElem (by omega) | exact rfl | exact Zb (by first | (simp; done) | (simp; omega))) F.lay30 rfl rfl rfl ?_ | refine Zm rfl rfl rfl (by first | assumption | exact Mem.get_of (by assumption) (by repeat first | assumption | refine Mem.le.trans (by assumption) ?_)) F.lay30 rfl rfl rfl ?_ | refine Zl rfl rfl rfl (by assumption) (by repeat first | exact Rem.here _ | exact Rem.two | apply Rem.skip | apply Rem.over) (by first | exact Zb (by omega) | exact List.getElem?_eq_getElem (by omega) | exact rfl | exact Zb (by first | (simp; done) | (simp; omega))) F.lay30 rfl rfl rfl ?_ | refine Zn rfl rfl rfl (by repeat first | exact List.Mem.head _ | refine List.Mem.tail _ ?_ | refine List.mem_append_right _ ?_) F.lay30 (by first | exact Zat (by first | omega | decide) | exact Zai (by first | omega | decide)) rfl ?_
                        refine X_fs rfl rfl F.ok9 rfl (Zbl M2 hW2.e es[j9] _ hvj) rfl ?_
                        rintro _ rfl
                        refine Zf rfl rfl rfl rfl ?_; refine Zg ?_; refine Zaw ?_; refine Zd ?_; refine Za (l := [0, 1, 2]) rfl ?_; refine Zc rfl rfl rfl rfl ?_; refine Zbe rfl rfl rfl rfl rfl (by first | exact Zak (by decide) (by omega) | exact Zr (by decide) (by omega) | exact Zu (by decide) (by omega) | exact Zs (by decide) (by omega) | exact Zz _ | exact Zaj _ | exact Zaa _ | exact rfl) rfl ?_; refine Zf rfl rfl rfl rfl ?_; refine Zg ?_; refine Zav (a' := [(11, _), (8, _), (9, _), (10, _)]) (j9) (.cons (k := 11) rfl (.cons (k := 8) rfl (.cons (k := 9) rfl (.cons (k := 10) rfl (.cons (k := 7) rfl (.cons (k := 5) rfl (.cons (k := 4) rfl (.cons (k := 1) rfl (.nil))))))))) (fun w hw => by first | exact hw | exact hw.cnt (by intro zz; first | exact Nat.le_refl _ | (simp only [Zh, Ze, Zi, cat, List.append_eq, List.append_assoc, List.cons_append, List.nil_append, List.append_nil]; omega) | (simp only [Zh, Ze, Zi, cat, List.append_eq, List.append_assoc, List.cons_append, List.nil_append, List.append_nil, StepL06V.segs]; omega))) ?_ ?_
                        · refine ⟨?_, by omega⟩
                          rw [anyH_step hje, anyA_step hje, first_step hje hne]
                          first | (simp_all; done) | (cases h9 : es[j9].isNone <;> simp_all [eqX]; done)
                        · omega
                    · first | replace hc15 := dT hc15 | replace hc15 := dF hc15 | replace hc15 := nT hc15 | replace hc15 := nF hc15 | skip
                      first
                      | (exfalso; omega)
                      | (exfalso; simp [eqX] at hc15; done)
                      | contradiction
                      | skip
                        refine Zy ?_; refine Zaw ?_; refine Zd ?_; refine Za (l := [0, 1, 2]) rfl ?_; refine Zc rfl rfl rfl rfl ?_; refine Zbe rfl rfl rfl rfl rfl (by first | exact Zak (by decide) (by omega) | exact Zr (by decide) (by omega) | exact Zu (by decide) (by omega) | exact Zs (by decide) (by omega) | exact Zz _ | exact Zaj _ | exact Zaa _ | exact rfl) rfl ?_; refine Zf rfl rfl rfl rfl ?_; refine Zg ?_; refine Zav (a' := [(11, _), (8, _), (9, _), (10, _)]) (j9) (.cons (k := 11) rfl (.cons (k := 8) rfl (.cons (k := 9) rfl (.cons (k := 10) rfl (.cons (k := 7) rfl (.cons (k := 5) rfl (.cons (k := 4) rfl (.cons (k := 1) rfl (.nil))))))))) (fun w hw => by first | exact hw | exact hw.cnt (by intro zz; first | exact Nat.le_refl _ | (simp only [Zh, Ze, Zi, cat, List.append_eq, List.append_assoc, List.cons_append, List.nil_append, List.append_nil]; omega) | (simp only [Zh, Ze, Zi, cat, List.append_eq, List.append_assoc, List.cons_append, List.nil_append, List.append_nil, StepL06V.segs]; omega))) ?_ ?_
                        · refine ⟨?_, by omega⟩
                          rw [anyH_step hje, anyA_step hje, first_step hje hne]
                          first | (simp_all; done) | (cases h9 : es[j9].isNone <;> simp_all [eqX]; done)
                        · omega
            · first | replace hc12 := dT hc12 | replace hc12 := dF hc12 | replace hc12 := nT hc12 | replace hc12 := nF hc12 | skip
              first
              | (exfalso; omega)
              | (exfalso; simp [eqX] at hc12; done)
              | contradiction
              | skip
                refine Zc rfl rfl rfl rfl ?_; refine Zc rfl rfl rfl rfl ?_; refine Zq rfl rfl rfl rfl F.elem25 (by first | rfl | exact (Int.toNat_of_nonneg (by omega)).symm) (by first | omega | (simp; done) | (simp; omega)) (by first | exact ⟨_, _, rfl⟩ | assumption | exact SlM.plain (by assumption) (by first | (simp; done) | (simp; omega)) | exact RdS.plain (by assumption) (by first | (simp; done) | (simp; omega)) | exact OSl.plain (by assumption) (by first | (simp; done) | (simp; omega))) rfl ?_
                first | refine Zab rfl rfl rfl (by repeat first | exact List.Mem.head _ | refine List.Mem.tail _ ?_ | refine List.mem_append_right _ ?_) F.lay30 rfl rfl rfl ?_ | refine Zp rfl rfl rfl (by first | assumption | exact SlM.mono (by assumption) (by assumption)) (by first | exact Zb (by omega) | exact List.getElem?_eq_getElem (by omega) | exact rfl | exact Zb (by first | (simp; done) | (simp; omega))) F.lay30 rfl rfl rfl ?_ | refine Zo rfl rfl rfl (by assumption) (by first | exact Zb (by omega) | exact List.getElem?_eq_getElem (by omega) | exact rfl | exact Zb (by first | (simp; done) | (simp; omega))) F.lay30 rfl rfl rfl ?_ | refine Zm rfl rfl rfl (by first | assumption | exact Mem.get_of (by assumption) (by repeat first | assumption | refine Mem.le.trans (by assumption) ?_)) F.lay30 rfl rfl rfl ?_ | refine Zl rfl rfl rfl (by assumption) (by repeat first | exact Rem.here _ | exact Rem.two | apply Rem.skip | apply Rem.over) (by first | exact Zb (by omega) | exact List.getElem?_eq_getElem (by omega) | exact rfl | exact Zb (by first | (simp; done) | (simp; omega))) F.lay30 rfl rfl rfl ?_ | refine Zn rfl rfl rfl (by repeat first | exact List.Mem.head _ | refine List.Mem.tail _ ?_ | refine List.mem_append_right _ ?_) F.lay30 (by first | exact Zat (by first | omega | decide) | exact Zai (by first | omega | decide)) rfl ?_
                refine Zc rfl rfl rfl rfl ?_; refine X_fs rfl rfl F.ok11 rfl (Zbt M2 c es[j9] _ hvj) rfl ?_
                rintro _ rfl
                refine Zag rfl rfl rfl rfl rfl ?_; refine Zf rfl rfl rfl rfl ?_; refine Zg ?_; refine Zd ?_; refine Zj ?_; refine Za (l := [0, 1, 2, 3, 4, 5, 6, 7, 8]) rfl ?_; refine Zc rfl rfl rfl rfl ?_; refine Zc rfl rfl rfl rfl ?_
                refine Zbn 39 rfl (fun hc16 => ?_) (fun hc16 => ?_)
                · first | replace hc16 := dT hc16 | replace hc16 := dF hc16 | replace hc16 := nT hc16 | replace hc16 := nF hc16 | skip
                  first
                  | (exfalso; omega)
                  | (exfalso; simp [eqX] at hc16; done)
                  | contradiction
                  | skip
                    refine Zac rfl rfl rfl ?_; refine Zac rfl rfl rfl ?_; refine Zac rfl rfl rfl ?_; refine Zac rfl rfl rfl ?_; refine Zac rfl rfl rfl ?_; refine Zag rfl rfl rfl rfl rfl ?_; refine Zf rfl rfl rfl rfl ?_; refine Zg ?_; refine Zd ?_; refine Zj ?_; refine Za (l := [0, 1, 2, 3, 4]) rfl ?_; refine Zc rfl rfl rfl rfl ?_; refine Zc rfl rfl rfl rfl ?_; refine Zq rfl rfl rfl rfl F.elem25 (by first | rfl | exact (Int.toNat_of_nonneg (by omega)).symm) (by first | omega | (simp; done) | (simp; omega)) (by first | exact ⟨_, _, rfl⟩ | assumption | exact SlM.plain (by assumption) (by first | (simp; done) | (simp; omega)) | exact RdS.plain (by assumption) (by first | (simp; done) | (simp; omega)) | exact OSl.plain (by assumption) (by first | (simp; done) | (simp; omega))) rfl ?_
                    first | refine Zab rfl rfl rfl (by repeat first | exact List.Mem.head _ | refine List.Mem.tail _ ?_ | refine List.mem_append_right _ ?_) F.lay30 rfl rfl rfl ?_ | refine Zp rfl rfl rfl (by first | assumption | exact SlM.mono (by assumption) (by assumption)) (by first | exact Zb (by omega) | exact List.getElem?_eq_getElem (by omega) | exact rfl | exact Zb (by first | (simp; done) | (simp; omega))) F.lay30 rfl rfl rfl ?_ | refine Zo rfl rfl rfl (by assumption) (by first | exact Zb (by omega) | exact List.getElem?_eq_getElem (by omega) | exact rfl | exact Zb (by first | (simp; done) | (simp; omega))) F.lay30 rfl rfl rfl ?_ | refine Zm rfl rfl rfl (by first | assumption | exact Mem.get_of (by assumption) (by repeat first | assumption | refine Mem.le.trans (by assumption) ?_)) F.lay30 rfl rfl rfl ?_ | refine Zl rfl rfl rfl (by assumption) (by repeat first | exact Rem.here _ | exact Rem.two | apply Rem.skip | apply Rem.over) (by first | exact Zb (by omega) | exact List.getElem?_eq_getElem (by omega) | exact rfl | exact Zb (by first | (simp; done) | (simp; omega))) F.lay30 rfl rfl rfl ?_ | refine Zn rfl rfl rfl (by repeat first | exact List.Mem.head _ | refine List.Mem.tail _ ?_ | refine List.mem_append_right _ ?_) F.lay30 (by first | exact Zat (by first | omega | decide) | exact Zai (by first | omega | decide)) rfl ?_
                    refine Zbh rfl rfl rfl rfl Tryd.underlying30 (Zbq hvj) rfl ?_; refine Zg ?_; refine Zd ?_
                    refine Zae rfl (fun hc17 => ?_) (fun hc17 => ?_)
                    · first | replace hc17 := dT hc17 | replace hc17 := dF hc17 | replace hc17 := nT hc17 | replace hc17 := nF hc17 | skip
                      first
                      | (exfalso; omega)
                      | (exfalso; simp [eqX] at hc17; done)
                      | contradiction
                      | skip
                        refine Za (l := [0, 1, 2, 3, 4, 5]) rfl ?_; refine Zc rfl rfl rfl rfl ?_; refine Zc rfl rfl rfl rfl ?_; refine Zq rfl rfl rfl rfl F.elem25 (by first | rfl | exact (Int.toNat_of_nonneg (by omega)).symm) (by first | omega | (simp; done) | (simp; omega)) (by first | exact ⟨_, _, rfl⟩ | assumption | exact SlM.plain (by assumption) (by first | (simp; done) | (simp; omega)) | exact RdS.plain (by assumption) (by first | (simp; done) | (simp; omega)) | exact OSl.plain (by assumption) (by first | (simp; done) | (simp; omega))) rfl ?_
                        first | refine Zab rfl rfl rfl (by repeat first | exact List.Mem.head _ | refine List.Mem.tail _ ?_ | refine List.mem_append_right _ ?_) F.lay30 rfl rfl rfl ?_ | refine Zp rfl rfl rfl (by first | assumption | exact SlM.mono (by assumption) (by assumption)) (by first | exact Zb (by omega) | exact List.getElem?_eq_getElem (by omega) | exact rfl | exact Zb (by first | (simp; done) | (simp; omega))) F.lay30 rfl rfl rfl ?_ | refine Zo rfl rfl rfl (by assumption) (by first | exact Zb (by omega) | exact List.getElem?_eq_getElem (by omega) | exact rfl | exact Zb (by first | (simp; done) | (simp; omega))) F.lay30 rfl rfl rfl ?_ | refine Zm rfl rfl rfl (by first | assumption | exact Mem.get_of (by assumption) (by repeat first | assumption | refine Mem.le.trans (by assumption) ?_)) F.lay30 rfl rfl rfl ?_ | refine Zl rfl rfl rfl (by assumption) (by repeat first | exact Rem.here _ | exact Rem.two | apply Rem.skip | apply Rem.over) (by first | exact Zb (by omega) | exact List.getElem?_eq_getElem (by omega) | exact rfl | exact Zb (by first | (simp; done) | (simp; omega))) F.lay30 rfl rfl rfl ?_ | refine Zn rfl rfl rfl (by repeat first | exact List.Mem.head _ | refine List.Mem.tail _ ?_ | refine List.mem_append_right _ ?_) F.lay30 (by first | exact Zat (by first | omega | decide) | exact Zai (by first | omega | decide)) rfl ?_
                        refine X_fs rfl rfl F.ok9 rfl (Zbl M2 hW2.e es[j9] _ hvj) rfl ?_
                        rintro _ rfl
                        refine Zf rfl rfl rfl rfl ?_; refine Zg ?_; refine Zaw ?_; refine Zd ?_; refine Za (l := [0, 1, 2]) rfl ?_; refine Zc rfl rfl rfl rfl ?_; refine Zbe rfl rfl rfl rfl rfl (by first | exact Zak (by decide) (by omega) | exact Zr (by decide) (by omega) | exact Zu (by decide) (by omega) | exact Zs (by decide) (by omega) | exact Zz _ | exact Zaj _ | exact Zaa _ | exact rfl) rfl ?_; refine Zf rfl rfl rfl rfl ?_; refine Zg ?_; refine Zav (a' := [(11, _), (8, _), (9, _), (10, _)]) (j9) (.cons (k := 11) rfl (.cons (k := 8) rfl (.cons (k := 9) rfl (.cons (k := 10) rfl (.cons (k := 7) rfl (.cons (k := 5) rfl (.cons (k := 4) rfl (.cons (k := 1) rfl (.nil))))))))) (fun w hw => by first | exact hw | exact hw.cnt (by intro zz; first | exact Nat.le_refl _ | (simp only [Zh, Ze, Zi, cat, List.append_eq, List.append_assoc, List.cons_append, List.nil_append, List.append_nil]; omega) | (simp only [Zh, Ze, Zi, cat, List.append_eq, List.append_assoc, List.cons_append, List.nil_append, List.append_nil, StepL06V.segs]; omega))) ?_ ?_
                        · refine ⟨?_, by omega⟩
                          rw [anyH_step hje, anyA_step hje, first_step hje hne]
                          first | (simp_all; done) | (cases h9 : es[j9].isNone <;> simp_all [eqX]; done)
                        · omega
                    · first | replace hc17 := dT hc17 | replace hc17 := dF hc17 | replace hc17 := nT hc17 | replace hc17 := nF hc17 | skip
                      first
                      | (exfalso; omega)
                      | (exfalso; simp [eqX] at hc17; done)
                      | contradiction
                      | skip
                        refine Zy ?_; refine Zaw ?_; refine Zd ?_; refine Za (l := [0, 1, 2]) rfl ?_; refine Zc rfl rfl rfl rfl ?_; refine Zbe rfl rfl rfl rfl rfl (by first | exact Zak (by decide) (by omega) | exact Zr (by decide) (by omega) | exact Zu (by decide) (by omega) | exact Zs (by decide) (by omega) | exact Zz _ | exact Zaj _ | exact Zaa _ | exact rfl) rfl ?_; refine Zf rfl rfl rfl rfl ?_; refine Zg ?_; refine Zav (a' := [(11, _), (8, _), (9, _), (10, _)]) (j9) (.cons (k := 11) rfl (.cons (k := 8) rfl (.cons (k := 9) rfl (.cons (k := 10) rfl (.cons (k := 7) rfl (.cons (k := 5) rfl (.cons (k := 4) rfl (.cons (k := 1) rfl (.nil))))))))) (fun w hw => by first | exact hw | exact hw.cnt (by intro zz; first | exact Nat.le_refl _ | (simp only [Zh, Ze, Zi, cat, List.append_eq, List.append_assoc, List.cons_append, List.nil_append, List.append_nil]; omega) | (simp only [Zh, Ze, Zi, cat, List.append_eq, List.append_assoc, List.cons_append, List.nil_append, List.append_nil, StepL06V.segs]; omega))) ?_ ?_
                        · refine ⟨?_, by omega⟩
                          rw [anyH_step hje, anyA_step hje, first_step hje hne]
                          first | (simp_all; done) | (cases h9 : es[j9].isNone <;> simp_all [eqX]; done)
                        · omega
                · first | replace hc16 := dT hc16 | replace hc16 := dF hc16 | replace hc16 := nT hc16 | replace hc16 := nF hc16 | skip
                  first
                  | (exfalso; omega)
                  | (exfalso; simp [eqX] at hc16; done)
                  | contradiction
                  | skip
                    refine Zc rfl rfl rfl rfl ?_; refine Zc rfl rfl rfl rfl ?_; refine Zq rfl rfl rfl rfl F.elem25 (by first | rfl | exact (Int.toNat_of_nonneg (by omega)).symm) (by first | omega | (simp; done) | (simp; omega)) (by first | exact ⟨_, _, rfl⟩ | assumption | exact SlM.plain (by assumption) (by first | (simp; done) | (simp; omega)) | exact RdS.plain (by assumption) (by first | (simp; done) | (simp; omega)) | exact OSl.plain (by assumption) (by first | (simp; done) | (simp; omega))) rfl ?_
                    first | refine Zab rfl rfl rfl (by repeat first | exact List.Mem.head _ | refine List.Mem.tail _ ?_ | refine List.mem_append_right _ ?_) F.lay30 rfl rfl rfl ?_ | refine Zp rfl rfl rfl (by first | assumption | exact SlM.mono (by assumption) (by assumption)) (by first | exact Zb (by omega) | exact List.getElem?_eq_getElem (by omega) | exact rfl | exact Zb (by first | (simp; done) | (simp; omega))) F.lay30 rfl rfl rfl ?_ | refine Zo rfl rfl rfl (by assumption) (by first | exact Zb (by omega) | exact List.getElem?_eq_getElem (by omega) | exact rfl | exact Zb (by first | (simp; done) | (simp; omega))) F.lay30 rfl rfl rfl ?_ | refine Zm rfl rfl rfl (by first | assumption | exact Mem.get_of (by assumption) (by repeat first | assumption | refine Mem.le.trans (by assumption) ?_)) F.lay30 rfl rfl rfl ?_ | refine Zl rfl rfl rfl (by assumption) (by repeat first | exact Rem.here _ | exact Rem.two | apply Rem.skip | apply Rem.over) (by first | exact Zb (by omega) | exact List.getElem?_eq_getElem (by omega) | exact rfl | exact Zb (by first | (simp; done) | (simp; omega))) F.lay30 rfl rfl rfl ?_ | refine Zn rfl rfl rfl (by repeat first | exact List.Mem.head _ | refine List.Mem.tail _ ?_ | refine List.mem_append_right _ ?_) F.lay30 (by first | exact Zat (by first | omega | decide) | exact Zai (by first | omega | decide)) rfl ?_
                    refine X_fs rfl rfl F.ok13 rfl (bAgain_o M2 es[j9] _ hvj) rfl ?_
                    rintro _ rfl
                    refine Zag rfl rfl rfl rfl rfl ?_; refine Zf rfl rfl rfl rfl ?_; refine Zg ?_; refine Zd ?_; refine Zj ?_; refine Za (l := [0, 1, 2, 3, 4]) rfl ?_; refine Zc rfl rfl rfl rfl ?_; refine Zc rfl rfl rfl rfl ?_; refine Zq rfl rfl rfl rfl F.elem25 (by first | rfl | exact (Int.toNat_of_nonneg (by omega)).symm) (by first | omega | (simp; done) | (simp; omega)) (by first | exact ⟨_, _, rfl⟩ | assumption | exact SlM.plain (by assumption) (by first | (simp; done) | (simp; omega)) | exact RdS.plain (by assumption) (by first | (simp; done) | (simp; omega)) | exact OSl.plain (by assumption) (by first | (simp; done) | (simp; omega))) rfl ?_
                    first | refine Zab rfl rfl rfl (by repeat first | exact List.Mem.head _ | refine List.Mem.tail _ ?_ | refine List.mem_append_right _ ?_) F.lay30 rfl rfl rfl ?_ | refine Zp rfl rfl rfl (by first | assumption | exact SlM.mono (by assumption) (by assumption)) (by first | exact Zb (by omega) | exact List.getElem?_eq_getElem (by omega) | exact rfl | exact Zb (by first | (simp; done) | (simp; omega))) F.lay30 rfl rfl rfl ?_ | refine Zo rfl rfl rfl (by assumption) (by first | exact Zb (by omega) | exact List.getElem?_eq_getElem (by omega) | exact rfl | exact Zb (by first | (simp; done) | (simp; omega))) F.lay30 rfl rfl rfl ?_ | refine Zm rfl rfl rfl (by first | assumption | exact Mem.get_of (by assumption) (by repeat first | assumption | refine Mem.le.trans (by assumption) ?_)) F.lay30 rfl rfl rfl ?_ | refine Zl rfl rfl rfl (by assumption) (by repeat first | exact Rem.here _ | exact Rem.two | apply Rem.skip | apply Rem.over) (by first | exact Zb (by omega) | exact List.getElem?_eq_getElem (by omega) | exact rfl | exact Zb (by first | (simp; done) | (simp; omega))) F.lay30 rfl rfl rfl ?_ | refine Zn rfl rfl rfl (by repeat first | exact List.Mem.head _ | refine List.Mem.tail _ ?_ | refine List.mem_append_right _ ?_) F.lay30 (by first | exact Zat (by first | omega | decide) | exact Zai (by first | omega | decide)) rfl ?_
                    refine Zbh rfl rfl rfl rfl Tryd.underlying30 (Zbq hvj) rfl ?_; refine Zg ?_; refine Zd ?_
                    refine Zae rfl (fun hc18 => ?_) (fun hc18 => ?_)
                    · first | replace hc18 := dT hc18 | replace hc18 := dF hc18 | replace hc18 := nT hc18 | replace hc18 := nF hc18 | skip
                      first
                      | (exfalso; omega)
                      | (exfalso; simp [eqX] at hc18; done)
                      | contradiction
                      | skip
                        refine Za (l := [0, 1, 2, 3, 4, 5]) rfl ?_; refine Zc rfl rfl rfl rfl ?_; refine Zc rfl rfl rfl rfl ?_; refine Zq rfl rfl rfl rfl F.elem25 (by first | rfl | exact (Int.toNat_of_nonneg (by omega)).symm) (by first | omega | (simp; done) | (simp; omega)) (by first | exact ⟨_, _, rfl⟩ | assumption | exact SlM.plain (by assumption) (by first | (simp; done) | (simp; omega)) | exact RdS.plain (by assumption) (by first | (simp; done) | (simp; omega)) | exact OSl.plain (by assumption) (by first | (simp; done) | (simp; omega))) rfl ?_
                        first | refine Zab rfl rfl rfl (by repeat first | exact List.Mem.head _ | refine List.Mem.tail _ ?_ | refine List.mem_append_right _ ?_) F.lay30 rfl rfl rfl ?_ | refine Zp rfl rfl rfl (by first | assumption | exact SlM.mono (by assumption) (by assumption)) (by first | exact Zb (by omega) | exact List.getElem?_eq_getElem (by omega) | exact rfl | exact Zb (by first | (simp; done) | (simp; omega))) F.lay30 rfl rfl rfl ?_ | refine Zo rfl rfl rfl (by assumption) (by first | exact Zb (by omega) | exact List.getElem?_eq_getElem (by omega) | exact rfl | exact Zb (by first | (simp; done) | (simp; omega))) F.lay30 rfl rfl rfl ?_ | refine Zm rfl rfl rfl (by first | assumption | exact Mem.get_of (by assumption) (by repeat first | assumption | refine Mem.le.trans (by assumption) ?_)) F.lay30 rfl rfl rfl ?_ | refine Zl rfl rfl rfl (by assumption) (by repeat first | exact Rem.here _ | exact Rem.two | apply Rem.skip | apply Rem.over) (by first | exact Zb (by omega) | exact List.getElem?_eq_getElem (by omega) | exact rfl | exact Zb (by first | (simp; done) | (simp; omega))) F.lay30 rfl rfl rfl ?_ | refine Zn rfl rfl rfl (by repeat first | exact List.Mem.head _ | refine List.Mem.tail _ ?_ | refine List.mem_append_right _ ?_) F.lay30 (by first | exact Zat (by first | omega | decide) | exact Zai (by first | omega | decide)) rfl ?_
                        refine X_fs rfl rfl F.ok9 rfl (Zbl M2 hW2.e es[j9] _ hvj) rfl ?_
                        rintro _ rfl
                        refine Zf rfl rfl rfl rfl ?_; refine Zg ?_; refine Zaw ?_; refine Zd ?_; refine Za (l := [0, 1, 2]) rfl ?_; refine Zc rfl rfl rfl rfl ?_; refine Zbe rfl rfl rfl rfl rfl (by first | exact Zak (by decide) (by omega) | exact Zr (by decide) (by omega) | exact Zu (by decide) (by omega) | exact Zs (by decide) (by omega) | exact Zz _ | exact Zaj _ | exact Zaa _ | exact rfl) rfl ?_; refine Zf rfl rfl rfl rfl ?_; refine Zg ?_; refine Zav (a' := [(11, _), (8, _), (9, _), (10, _)]) (j9) (.cons (k := 11) rfl (.cons (k := 8) rfl (.cons (k := 9) rfl (.cons (k := 10) rfl (.cons (k := 7) rfl (.cons (k := 5) rfl (.cons (k := 4) rfl (.cons (k := 1) rfl (.nil))))))))) (fun w hw => by first | exact hw | exact hw.cnt (by intro zz; first | exact Nat.le_refl _ | (simp only [Zh, Ze, Zi, cat, List.append_eq, List.append_assoc, List.cons_append, List.nil_append, List.append_nil]; omega) | (simp only [Zh, Ze, Zi, cat, List.append_eq, List.append_assoc, List.cons_append, List.nil_append, List.append_nil, StepL06V.segs]; omega))) ?_ ?_
                        · refine ⟨?_, by omega⟩
                          rw [anyH_step hje, anyA_step hje, first_step hje hne]
                          first | (simp_all; done) | (cases h9 : es[j9].isNone <;> simp_all [eqX]; done)
                        · omega
                    · first | replace hc18 := dT hc18 | replace hc18 := dF hc18 | replace hc18 := nT hc18 | replace hc18 := nF hc18 | skip
                      first
                      | (exfalso; omega)
                      | (exfalso; simp [eqX] at hc18; done)
                      | contradiction
                      | skip
                        refine Zy ?_; refine Zaw ?_; refine Zd ?_; refine Za (l := [0, 1, 2]) rfl ?_; refine Zc rfl rfl rfl rfl ?_; refine Zbe rfl rfl rfl rfl rfl (by first | exact Zak (by decide) (by omega) | exact Zr (by decide) (by omega) | exact Zu (by decide) (by omega) | exact Zs (by decide) (by omega) | exact Zz _ | exact Zaj _ | exact Zaa _ | exact rfl) rfl ?_; refine Zf rfl rfl rfl rfl ?_; refine Zg ?_; refine Zav (a' := [(11, _), (8, _), (9, _), (10, _)]) (j9) (.cons (k := 11) rfl (.cons (k := 8) rfl (.cons (k := 9) rfl (.cons (k := 10) rfl (.cons (k := 7) rfl (.cons (k := 5) rfl (.cons (k := 4) rfl (.cons (k := 1) rfl (.nil))))))))) (fun w hw => by first | exact hw | exact hw.cnt (by intro zz; first | exact Nat.le_refl _ | (simp only [Zh, Ze, Zi, cat, List.append_eq, List.append_assoc, List.cons_append, List.nil_append, List.append_nil]; omega) | (simp only [Zh, Ze, Zi, cat, List.append_eq, List.append_assoc, List.cons_append, List.nil_append, List.append_nil, StepL06V.segs]; omega))) ?_ ?_
                        · refine ⟨?_, by omega⟩
                          rw [anyH_step hje, anyA_step hje, first_step hje hne]
                          first | (simp_all; done) | (cases h9 : es[j9].isNone <;> simp_all [eqX]; done)
                        · omega
        · first | replace hc11 := dT hc11 | replace hc11 := dF hc11 | replace hc11 := nT hc11 | replace hc11 := nF hc11 | skip
          first
          | (exfalso; omega)
          | (exfalso; simp [eqX] at hc11; done)
          | contradiction
          | skip
            refine Zbk ?_; refine Zau ?_; refine Zau ?_; refine Zbs ?_; refine Zd ?_; refine Zk (.cons (k := 8) rfl (.cons (k := 9) rfl (.cons (k := 10) rfl (.cons (k := 7) rfl (.cons (k := 4) rfl (.cons (k := 1) rfl .nil)))))) ?_; refine Zj ?_; refine Zj ?_
            rw [List.drop_zero]
            refine Za (l := [0, 1]) rfl ?_; refine Zc rfl rfl rfl rfl ?_; refine Zas rfl rfl rfl rfl rfl rfl ?_; refine Zg ?_; refine Zd ?_; refine Zk (.cons (k := 57) rfl (.cons (k := 8) rfl (.cons (k := 9) rfl (.cons (k := 10) rfl (.cons (k := 7) rfl (.cons (k := 4) rfl (.cons (k := 1) rfl .nil))))))) ?_
            refine Zae rfl (fun hc19 => ?_) (fun hc19 => ?_)
            · first | replace hc19 := dT hc19 | replace hc19 := dF hc19 | replace hc19 := nT hc19 | replace hc19 := nF hc19 | skip
              first
              | (exfalso; omega)
              | (exfalso; simp [eqX] at hc19; done)
              | contradiction
              | skip
                refine Za (l := [0, 1, 2]) rfl ?_; refine Zc rfl rfl rfl rfl ?_; refine Zbh rfl rfl rfl rfl Tryd.underlying30 (Zbq hva) rfl ?_; refine Zf rfl rfl rfl rfl ?_; refine Zg ?_; refine Zd ?_; refine Zk (.cons (k := 8) rfl (.cons (k := 9) rfl (.cons (k := 10) rfl (.cons (k := 7) rfl (.cons (k := 4) rfl (.cons (k := 1) rfl .nil)))))) ?_; refine Zj ?_; refine Za (l := [0, 1, 2, 3, 4, 5, 6, 7, 8, 9, 10, 11, 12, 13, 14, 15, 16, 17, 18, 19, 20, 21, 22, 23, 24, 25, 26, 27, 28, 29, 30, 31, 32, 33]) rfl ?_; refine X_fn rfl rfl F.ok20 rfl (blamed_ok M2 hW2) rfl ?_
                rintro _ M3 hm3 rfl
                have hW3 := hW2.mono hm3
                refine Zc rfl rfl rfl rfl ?_; refine Zc rfl rfl rfl rfl ?_; refine Zc rfl rfl rfl rfl ?_; refine X_fs rfl rfl F.ok11 rfl (Zbt M3 c (joinO es) va (hva.mono hm3)) rfl ?_
                rintro _ rfl
                refine Zc rfl rfl rfl rfl ?_; refine Zbv rfl rfl rfl rfl rfl Tryd.underlying4 rfl ?_; refine Zbd 66 rfl (congrArg Value.bool (show _ = true by first | (rw [has_join (by assumption)]; simp [eqX]; done) | (rw [hasO, if_pos (by assumption)]; simp [eqX]; done))) ?_; refine Zag rfl rfl rfl rfl rfl ?_; refine Zc rfl rfl rfl rfl ?_; refine Zc rfl rfl rfl rfl ?_; refine X_fs rfl rfl F.ok13 rfl (bAgain_o M3 (joinO es) va (hva.mono hm3)) rfl ?_
                rintro _ rfl
                refine Zc rfl rfl rfl rfl ?_; refine Zbv rfl rfl rfl rfl rfl Tryd.underlying4 rfl ?_; refine Zbd 72 rfl (congrArg Value.bool (show _ = true by rw [again_join]; simp [eqX])) ?_; refine Zag rfl rfl rfl rfl rfl ?_; refine Zc rfl rfl rfl rfl ?_; refine Zc rfl rfl rfl rfl ?_; refine X_fs rfl rfl F.ok9 rfl (Zbl M3 hW3.e (joinO es) va (hva.mono hm3)) rfl ?_
                rintro _ rfl
                refine Zc rfl rfl rfl rfl ?_; refine Zas rfl rfl rfl rfl rfl rfl ?_; refine Zbd 78 rfl (congrArg Value.bool (show _ = true by simp)) ?_; refine Zag rfl rfl rfl rfl rfl ?_; refine Zc rfl rfl rfl rfl ?_; refine Zc rfl rfl rfl rfl ?_; refine X_fn rfl rfl F.ok16 rfl (bTrail_o M3 (joinO es) va (hva.mono hm3) (by have := wt_join es; have := hB.wt; omega)) rfl ?_
                rintro _ M4 hm4 ⟨⟨a9, c9, l9⟩, rfl, hs9, hk9⟩
                simp only at hs9
                rw [trail_join] at hs9
                have hl9 : l9.length = 0 := by rw [hs9]; rfl
                refine Zan rfl rfl rfl rfl F.elem40 rfl ?_; refine Zas rfl rfl rfl rfl rfl rfl ?_; refine Zbd 84 rfl (congrArg Value.bool (show _ = true by simp [hl9])) ?_; refine Zag rfl rfl rfl rfl rfl ?_; refine Zc rfl rfl rfl rfl ?_; refine Zc rfl rfl rfl rfl ?_; refine Zbh rfl rfl rfl rfl Tryd.underlying30 (Zbq (hva.mono hm3)) rfl ?_; refine Zc rfl rfl rfl rfl ?_; refine Zas rfl rfl rfl rfl rfl rfl ?_; refine Zbv rfl rfl rfl rfl rfl Tryd.underlying4 rfl ?_; refine Zbd 91 rfl (congrArg Value.bool (show _ = true by rw [none_join hB.ok hne]; simp [eqX])) ?_; refine Zag rfl rfl rfl rfl rfl ?_; refine Zf rfl rfl rfl rfl ?_; refine Zg ?_; refine Zd ?_; refine Zk (.cons (k := 4) rfl .nil) ?_; refine Zaq ?_
                refine Zap (.inr rfl) (.tmp rfl .nil) (fun w hw => ?_)
                exact ⟨_, _, rfl, hm1.trans (hm2.trans (hm3.trans hm4)), hw.cnt (by intro zz; first | exact Nat.le_refl _ | (simp only [Zh, Ze, Zi, cat, List.append_eq, List.append_assoc, List.cons_append, List.nil_append, List.append_nil]; omega) | (simp only [Zh, Ze, Zi, cat, List.append_eq, List.append_assoc, List.cons_append, List.nil_append, List.append_nil, StepL06V.segs]; omega)), rfl⟩
            · first | replace hc19 := dT hc19 | replace hc19 := dF hc19 | replace hc19 := nT hc19 | replace hc19 := nF hc19 | skip
              first
              | (exfalso; omega)
              | (exfalso; simp [eqX] at hc19; done)
              | contradiction
              | skip
                refine Zy ?_; refine Zd ?_; refine Zk (.cons (k := 8) rfl (.cons (k := 9) rfl (.cons (k := 10) rfl (.cons (k := 7) rfl (.cons (k := 4) rfl (.cons (k := 1) rfl .nil)))))) ?_; refine Zj ?_; refine Za (l := [0, 1, 2, 3, 4, 5, 6, 7, 8, 9, 10, 11, 12, 13, 14, 15, 16, 17, 18, 19, 20, 21, 22, 23, 24, 25, 26, 27, 28, 29, 30, 31, 32, 33]) rfl ?_; refine X_fn rfl rfl F.ok20 rfl (blamed_ok M2 hW2) rfl ?_
                rintro _ M3 hm3 rfl
                have hW3 := hW2.mono hm3
                refine Zc rfl rfl rfl rfl ?_; refine Zc rfl rfl rfl rfl ?_; refine Zc rfl rfl rfl rfl ?_; refine X_fs rfl rfl F.ok11 rfl (Zbt M3 c (joinO es) va (hva.mono hm3)) rfl ?_
                rintro _ rfl
                refine Zc rfl rfl rfl rfl ?_; refine Zbv rfl rfl rfl rfl rfl Tryd.underlying4 rfl ?_; refine Zbd 66 rfl (congrArg Value.bool (show _ = true by first | (rw [has_join (by assumption)]; simp [eqX]; done) | (rw [hasO, if_pos (by assumption)]; simp [eqX]; done))) ?_; refine Zag rfl rfl rfl rfl rfl ?_; refine Zc rfl rfl rfl rfl ?_; refine Zc rfl rfl rfl rfl ?_; refine X_fs rfl rfl F.ok13 rfl (bAgain_o M3 (joinO es) va (hva.mono hm3)) rfl ?_
                rintro _ rfl
                refine Zc rfl rfl rfl rfl ?_; refine Zbv rfl rfl rfl rfl rfl Tryd.underlying4 rfl ?_; refine Zbd 72 rfl (congrArg Value.bool (show _ = true by rw [again_join]; simp [eqX])) ?_; refine Zag rfl rfl rfl rfl rfl ?_; refine Zc rfl rfl rfl rfl ?_; refine Zc rfl rfl rfl rfl ?_; refine X_fs rfl rfl F.ok9 rfl (Zbl M3 hW3.e (joinO es) va (hva.mono hm3)) rfl ?_
                rintro _ rfl
                refine Zc rfl rfl rfl rfl ?_; refine Zas rfl rfl rfl rfl rfl rfl ?_; refine Zbd 78 rfl (congrArg Value.bool (show _ = true by simp)) ?_; refine Zag rfl rfl rfl rfl rfl ?_; refine Zc rfl rfl rfl rfl ?_; refine Zc rfl rfl rfl rfl ?_; refine X_fn rfl rfl F.ok16 rfl (bTrail_o M3 (joinO es) va (hva.mono hm3) (by have := wt_join es; have := hB.wt; omega)) rfl ?_
                rintro _ M4 hm4 ⟨⟨a9, c9, l9⟩, rfl, hs9, hk9⟩
                simp only at hs9
                rw [trail_join] at hs9
                have hl9 : l9.length = 0 := by rw [hs9]; rfl
                refine Zan rfl rfl rfl rfl F.elem40 rfl ?_; refine Zas rfl rfl rfl rfl rfl rfl ?_; refine Zbd 84 rfl (congrArg Value.bool (show _ = true by simp [hl9])) ?_; refine Zag rfl rfl rfl rfl rfl ?_; refine Zc rfl rfl rfl rfl ?_; refine Zc rfl rfl rfl rfl ?_; refine Zbh rfl rfl rfl rfl Tryd.underlying30 (Zbq (hva.mono hm3)) rfl ?_; refine Zc rfl rfl rfl rfl ?_; refine Zas rfl rfl rfl rfl rfl rfl ?_; refine Zbv rfl rfl rfl rfl rfl Tryd.underlying4 rfl ?_; refine Zbd 91 rfl (congrArg Value.bool (show _ = true by rw [none_join hB.ok hne]; simp [eqX])) ?_; refine Zag rfl rfl rfl rfl rfl ?_; refine Zf rfl rfl rfl rfl ?_; refine Zg ?_; refine Zd ?_; refine Zk (.cons (k := 4) rfl .nil) ?_; refine Zaq ?_
                refine Zap (.inr rfl) (.tmp rfl .nil) (fun w hw => ?_)
                exact ⟨_, _, rfl, hm1.trans (hm2.trans (hm3.trans hm4)), hw.cnt (by intro zz; first | exact Nat.le_refl _ | (simp only [Zh, Ze, Zi, cat, List.append_eq, List.append_assoc, List.cons_append, List.nil_append, List.append_nil]; omega) | (simp only [Zh, Ze, Zi, cat, List.append_eq, List.append_assoc, List.cons_append, List.nil_append, List.append_nil, StepL06V.segs]; omega)), rfl⟩
end Go.Proofs.YtbeahcfghjiogaaDoor
namespace Go.Proofs.YtbeahcfghjiogaaDoor
open Go.Esp
theorem Tryd.et : Tryd.prog.globalNamed "errors.errorType" = some 0 := by kernel_rfl
theorem Tryd.rt : (Tryd.prog.cutTypes.find? (·.1 == "internal/reflectlite.rtype")).map (·.2) = some 87 := by kernel_rfl
theorem Tryd.typesN : Tryd.prog.types.size = 156 := by kernel_rfl
theorem Tryd.oneRow : ((List.range 156).filter fun t => Tryd.prog.rowNamed t [101, 114, 114, 111, 114]) = [30] := by kernel_rfl
theorem EG_of {W : World} (h : laidMetH Tryd.prog [("errors.errorType", Rows.laid_errors_errorType)] W) : EG (memOf W) := by
  have h' : laidMet Tryd.prog [] W ∧ handlesMet Tryd.prog [("errors.errorType", Rows.laid_errors_errorType)] W := h
  obtain ⟨name, u, ty, e1, e2, e3, e4, e5⟩ := h'.2 _ (List.mem_singleton.2 rfl)
  have en : name = [101, 114, 114, 111, 114] := (Option.some.inj e1).symm
  subst en
  obtain rfl := Option.some.inj (Tryd.rt.symm.trans e2)
  have hm : ty ∈ (List.range 156).filter fun t => Tryd.prog.rowNamed t [101, 114, 114, 111, 114] := List.mem_filter.2 ⟨List.mem_range.2 (by rw [← Tryd.typesN]; exact e3), e4⟩
  rw [Tryd.oneRow] at hm
  obtain rfl := List.mem_singleton.1 hm
  have hh : typeHandle Tryd.prog 30 = .pointer (some ⟨5, 30, none⟩) := by kernel_rfl
  rw [hh] at e5
  simp only [World.var?, Tryd.et, Option.bind_some] at e5
  split at e5
  · rename_i cs T fz hc
    obtain rfl := Option.some.inj e5
    exact ⟨_, T, fz, hc, rfl⟩
  · cases e5
noncomputable def laidWorld (os : Os) : World :=
  let w0 := World.holding Tryd.prog os ⟨#[], #[], []⟩
  { w0 with heap := w0.heap.modify 0 fun
      | .cells _ t frozen => .cells #[.iface 87 (.agg #[.pointer (some ⟨5, 30, none⟩)])] t frozen
      | o => o }
theorem laidWorld_met (os : Os) (args : Array Value) : laidMetH Tryd.prog [("errors.errorType", Rows.laid_errors_errorType)] ((laidWorld os).forCall (fun _ _ => 0) ⟨#[], args, []⟩).memory :=
  laidMetH_of_parts (laidMet_nil _ _) (by kernel_rfl)
theorem int_range {z : Int} (h : (Lit.int .i64 z).wf = true) : -9223372036854775808 ≤ z ∧ z ≤ 9223372036854775807 := by
  simp only [Lit.wf, Bool.and_eq_true, decide_eq_true_eq] at h
  exact h
theorem steps_of {M : Mem} {n : Nat} {R : Segs} (h : Ty Tryd.prog M n 22 R) : ∃ x : (Sl StepL06V), R = [.one x.val] ∧ Scr M x := by
  have e : Tryd.prog.cellsOf 55 = 4 := by kernel_rfl
  obtain ⟨ad, rows, c, m, rfl, h2, h3, h5, h4⟩ := ty_sliceC Tryd.underlying22 (by rw [e]; decide) h
  obtain ⟨l, rfl, hl⟩ := rows_mapP (f := StepL06V.segs) (p := fun y => y.op.size ≤ 140737488351232 ∧ -9223372036854775808 ≤ y.code ∧ y.code ≤ 9223372036854775807) (fun r hr => by
      obtain ⟨k, Rs, rfl, hlen, hf⟩ := ty_struct Tryd.underlying55 (h4 r hr)
      match Rs, hlen with
      | [r0, r1, r2, r3], _ =>
        obtain ⟨x0, rfl, _⟩ := ty_int Tryd.underlying3 (hf 0 _ r0 rfl rfl)
        obtain ⟨x1, rfl, w1⟩ := ty_int Tryd.underlying23 (hf 1 _ r1 rfl rfl)
        obtain ⟨x2, rfl, w2⟩ := ty_str Tryd.underlying9 (hf 2 _ r2 rfl rfl)
        obtain ⟨x3, rfl, _⟩ := ty_int Tryd.underlying3 (hf 3 _ r3 rfl rfl)
        exact ⟨⟨x0, x1, x2, x3⟩, rfl, w2, int_range w1⟩)
  rw [e] at h2
  exact ⟨⟨ad, c, l⟩, by simp [Sl.val], ⟨⟨h2, by simpa using h3, by simpa using h5⟩, hl⟩⟩
end Go.Proofs.YtbeahcfghjiogaaDoor
