/-
  Errors asked for.
-/
import Derived.Test.YtelpkhhfjfbkcaaDoorC6
import Derived.Test.YtelpkhhfjfbkcaaDoorRfF
set_option linter.unusedSimpArgs false
set_option linter.unusedVariables false
set_option linter.unnecessarySimpa false
set_option maxRecDepth 8000
namespace Go.Proofs.YtelpkhhfjfbkcaaDoor
open Go.Esp
theorem F.foff111_0 : foff Tryd.prog 111 0 = some 0 := by kernel_rfl
theorem F.lay125 : lay Tryd.prog 125 = some (false, 1) := by kernel_rfl
theorem F.lay140 : lay Tryd.prog 140 = some (true, 3) := by kernel_rfl
theorem F.ok66 : okFn Tryd.prog 66 = true := by kernel_rfl
theorem F.ok85 : okFn Tryd.prog 85 = true := by kernel_rfl
theorem F.ta116_163 (v : Value) (w : World) : (Instr.typeAssert (.iface 116 v) 71 163 true).run Tryd.prog w = .ok (.tuple #[.nilIface, .bool false]) w := run_typeAssert_lacksB Tryd.underlying163 (by kernel_rfl) (by kernel_rfl) v 71 w
theorem F.ta119_163 (v : Value) (w : World) : (Instr.typeAssert (.iface 119 v) 71 163 true).run Tryd.prog w = .ok (.tuple #[.nilIface, .bool false]) w := run_typeAssert_lacksB Tryd.underlying163 (by kernel_rfl) (by kernel_rfl) v 71 w
theorem F.zero111 : zeroOf Tryd.prog 111 = some (aggV [.one (.int .i64 0)]) := by kernel_rfl
theorem F.zero140 : zeroOf Tryd.prog 140 = some (aggV [.one (.pointer none), .one (.pointer none), .one (.int .u64 0)]) := by kernel_rfl

theorem eIs_ok (M : Mem) (x : Int) (e : Err) (v : Value) (he : ErrV M e v) : Fs Tryd.prog 53 [v, .iface 111 (aggV [.one (.int .i64 x)])] M (fun r => r = .bool (decide (x ∈ e.codes))) := by
  obtain ⟨t1, u1, rfl⟩ := he.iface
  refine fs_enter Tryd.func53 rfl Tryd.ntmps53 rfl ?_; intro H
  refine C_seq ?_
  refine C_region (l := [0]) rfl ?_
  refine Y_assign ?_
  refine XD_end ?_
  refine K_then ?_
  iterate 2 refine C_seq ?_
  refine C_region (l := [0, 1, 2, 3, 4, 5]) rfl ?_
  refine Y_move ?_
  refine Y_nil Tryd.underlying71 ?_
  refine Y_move ?_
  refine XD_part 8 rfl (fun hc1 => ?_) (fun hc1 => ?_)
  ·skip
   (exfalso; simp [eqX] at hc1; done)
  ·skip
   refine Y_move ?_
   refine Y_nil Tryd.underlying71 ?_
   refine Y_pick ?_
   refine XD_end ?_
   refine K_then ?_
   refine Y_pk [11, 4, 0, 1] ?_
   refine C_cond rfl (fun hc2 => ?_) (fun hc2 => ?_)
   ·skip
    (exfalso; simp [eqX] at hc2; done)
   ·skip
    refine C_skip ?_
    refine K_then ?_
    refine Y_pk [4, 0, 1] ?_
    refine C_seq ?_
    refine C_region (l := [0, 1, 2, 3]) rfl ?_
    refine Y_move ?_
    refine X_ext rfl rfl R.ext_TypeOf rfl (fun w hw => R.tyo111 _ w) rfl ?_
    refine X_invE rfl rfl rfl (R.m_Comparable _) R.ext_Comparable rfl (fun w hw => R.cmp w) rfl ?_
    refine Y_assign ?_
    refine XD_end ?_
    refine K_then ?_
    refine Y_pk [5, 4, 0, 1] ?_
    refine C_seq ?_
    refine C_region (l := [0, 1, 2, 3, 4]) rfl ?_
    iterate 3 refine Y_move ?_
    refine X_fs rfl rfl F.ok69 rfl (is_ok M x e _ he) rfl ?_
    rintro _ rfl
    refine Y_assign ?_
    refine XD_end ?_
    refine K_then ?_
    refine Y_pk [4] ?_
    refine C_ret ?_
    refine K_end (.inr rfl) (.tmp rfl .nil) (fun w hw => ?_)
    exact ⟨_, rfl, hw.c, rfl⟩

theorem as_aux (M : Mem) (bt bv : Nat) (z : Int) : ∀ (n : Nat) (e : Err) (v : Value), e.big ≤ n → ErrV M e v → Fh Tryd.prog 85 [v, .iface 113 (.pointer (some ⟨bt, 0, none⟩)), aggV [.one (.pointer (some ⟨5, 113, none⟩)), .one (.pointer (some ⟨bv, 0, none⟩)), .one (.int .u64 150)], .iface 148 (.agg #[.pointer (some ⟨5, 111, none⟩)])] M [(bv, rowO [.one (.pointer (some ⟨bt, 0, none⟩))] 113), (bt, rowO [.one (.int .i64 z)] 111)] (fun M' r Hout => M' = M ∧ r = .bool true ∧ Hout = [(bv, rowO [.one (.pointer (some ⟨bt, 0, none⟩))] 113), (bt, rowO [.one (.int .i64 (e.codes.headD 0))] 111)])
  |0, e, v, hn, hv0 => by cases e <;> simp [Err.big] at hn
  |n + 1, e, v, hn, hv0 => by
   have ih := fun e v (h : Err.big e ≤ n) h2 => as_aux M bt bv z n e v h h2
   refine fh_enterF (fun H => (bv, rowO [.one (.pointer (some ⟨bt, 0, none⟩))] 113) :: (bt, rowO [.one (.int .i64 z)] 111) :: H) (fun _ => rfl) Tryd.func85 rfl Tryd.ntmps85 rfl ?_; intro H
   refine C_seq ?_
   refine C_region (l := [0, 1]) rfl ?_
   refine Y_box ?_; intro b1
   refine Y_assign ?_
   refine XD_end ?_
   refine K_then ?_
   refine Y_pk [8, 6, 0, 1, 3] ?_
   refine C_block ?_
   refine Y_pk [0, 8, 6, 1, 3] ?_
   refine C_loopS (.succ .zero) (fun (e1 : Err) zz => ∃ v1, zz = [(0, v1)] ∧ ErrV M e1 v1 ∧ e1.big ≤ e.big ∧ e1.codes.headD 0 = e.codes.headD 0) (Err.big) (e) (⟨v, rfl, hv0, Nat.le_refl _, rfl⟩) ?_
   rintro e1 zz ⟨v1, rfl, hv, hb, hc⟩
   rcases e1 with c | ⟨op1, e2⟩ | l1
   ·obtain rfl : v1 = .iface 111 (aggV [.one (.int .i64 c)]) := hv
    refine C_block ?_
    iterate 2 refine C_seq ?_
    refine C_region (l := [0, 1, 2, 3]) rfl ?_
    refine Y_move ?_
    refine X_ext rfl rfl R.ext_TypeOf rfl (fun w hw => R.tyo111 _ w) rfl ?_
    refine Y_move ?_
    refine X_invE rfl rfl rfl (R.m_AssignableTo _) R.ext_AssignableTo rfl (fun w hw => R.asg111 w) rfl ?_
    refine XD_end ?_
    refine K_then ?_
    refine C_true rfl ?_
    refine C_seq ?_
    refine C_regionR (l := [0, 1, 2, 3, 4]) (Hin := [(bt, _)]) (by repeat first | exact Rem.here _ | exact Rem.two | apply Rem.skip | apply Rem.over) rfl ?_
    refine Y_load F.lay140 ?_
    refine X_ext rfl rfl R.ext_VElem rfl (fun w hw => R.vElem _ ⟨bt, 0, none⟩ w (by rw [Go.Esp.cell_of_row (hw.own bv (rowO [.one (.pointer (some ⟨bt, 0, none⟩))] 113) (by repeat first | exact List.Mem.head _ | refine List.Mem.tail _ ?_ | refine List.mem_append_right _ ?_))]; rfl)) rfl ?_
    refine Y_move ?_
    refine X_extA (v := fun b => aggV [.one (.pointer (some ⟨5, 111, none⟩)), .one (.pointer (some ⟨b, 0, none⟩)), .one (.int .u64 153)]) (o := rowO [.one (.int .i64 c)] 111) rfl rfl R.ext_ValueOf rfl (fun w => R.vo111 _ w) rfl ?_; intro b9
    refine X_extW rfl rfl R.ext_VSet rfl (R.setSt bt b9 z c 111 (by repeat first | exact Upd.head | apply Upd.tail | apply Upd.over) (by repeat first | exact List.Mem.head _ | refine List.Mem.tail _ ?_ | refine List.mem_append_right _ ?_)) (fun _ h => h.c) rfl ?_
    refine XD_end ?_
    refine K_then ?_
    refine Y_pk [23, 22, 21, 20, 19, 18, 17, 16, 0, 8, 6, 1, 3] ?_
    refine C_seq ?_
    refine C_region (l := [0]) rfl ?_
    refine Y_assign ?_
    refine XD_end ?_
    refine K_then ?_
    refine C_ret ?_
    refine K_ret ?_
    refine K_retB ?_
    refine K_ret ?_
    refine K_retB ?_
    refine K_end (.inr rfl) (.tmp rfl .nil) (fun w hw => ?_)
    refine ⟨_, M, [(bv, rowO [.one (.pointer (some ⟨bt, 0, none⟩))] 113), (bt, rowO [.one (.int .i64 c)] 111)], rfl, Mem.le.refl M, hw.c, rfl, rfl, ?_⟩
    rw [← hc]; rfl
   ·obtain ⟨b1, w1, rfl, hb1, hw1⟩ := hv
    obtain ⟨t1, u1, rfl⟩ := hw1.iface
    refine C_block ?_
    iterate 2 refine C_seq ?_
    refine C_region (l := [0, 1, 2, 3]) rfl ?_
    refine Y_move ?_
    refine X_ext rfl rfl R.ext_TypeOf rfl (fun w hw => R.tyo116 _ w) rfl ?_
    refine Y_move ?_
    refine X_invE rfl rfl rfl (R.m_AssignableTo _) R.ext_AssignableTo rfl (fun w hw => R.asg116 w) rfl ?_
    refine XD_end ?_
    refine K_then ?_
    refine C_false rfl ?_
    refine C_skip ?_
    refine K_then ?_
    iterate 2 refine C_seq ?_
    refine C_region (l := [0, 1, 2, 3, 4, 5, 6]) rfl ?_
    refine Y_move ?_
    refine X_ta rfl rfl rfl (F.ta116_163 _) rfl ?_
    refine Y_move ?_
    iterate 2 refine Y_extract ?_
    iterate 2 refine Y_assign ?_
    refine XD_end ?_
    refine K_then ?_
    refine C_seq ?_
    refine C_region (l := [0, 1, 2, 3, 4, 5]) rfl ?_
    iterate 2 refine Y_move ?_
    iterate 3 refine Y_skip ?_
    refine Y_pick ?_
    refine XD_end ?_
    refine K_then ?_
    refine C_false rfl ?_
    refine C_skip ?_
    refine K_then ?_
    refine C_seq ?_
    refine C_region (l := [0]) rfl ?_
    refine Y_move ?_
    refine XD_end ?_
    refine K_then ?_
    refine C_block ?_
    refine C_seq ?_
    refine C_region (l := [0, 1, 2]) rfl ?_
    refine X_ta rfl rfl rfl (F.ta116_152 _) rfl ?_
    iterate 2 refine Y_extract ?_
    refine XD_end ?_
    refine K_then ?_
    refine C_true rfl ?_
    refine C_seq ?_
    refine C_region (l := [0]) rfl ?_
    refine Y_assign ?_
    refine XD_end ?_
    refine K_then ?_
    refine C_seq ?_
    refine C_region (l := [0, 1, 2]) rfl ?_
    refine Y_move ?_
    refine X_invO rfl rfl rfl (F.meth116_Unwrap _) F.ok127 rfl (wUn_ok _ _ _ _ hb1) (Rem.here _ : Rem [] _ _) rfl ?_
    rintro _ M1 _ ⟨hM1, rfl⟩; subst M1
    refine Y_assign ?_
    refine XD_end ?_
    refine K_then ?_
    refine C_seq ?_
    refine C_region (l := [0, 1]) rfl ?_
    refine Y_move ?_
    refine Y_nil Tryd.underlying71 ?_
    refine XD_end ?_
    refine K_then ?_
    refine C_cond rfl (fun hc2 => ?_) (fun hc2 => ?_)
    ·skip
     (exfalso; simp [eqX] at hc2; done)
    ·skip
     refine C_skip ?_
     iterate 2 refine K_out ?_
     refine K_roundS (a' := [(0, _)]) (e2) (.cons (k := 0) rfl (.cons (k := 8) rfl (.cons (k := 6) rfl (.cons (k := 1) rfl (.cons (k := 3) rfl (.nil)))))) (fun w hw => by first | exact hw | exact hw.c) ?_ ?_
     ·exact ⟨_, rfl, hw1, by simp only [Err.big] at hb; omega, by simpa only [Err.codes] using hc⟩
     ·simp only [Err.big]; omega
   ·obtain ⟨hne, b1, ws, a1, c1, rfl, hb1, hs1, hl1, hws⟩ := hv
    have hlw := hws.len
    have nws : (ws.map fun u => ([.one u] : Segs)).length = ws.length := List.length_map ..
    have ml1 : ws.length ≤ 9223372036854775807 := hl1
    have hlp : 0 < l1.length := List.length_pos_iff.2 hne
    refine C_block ?_
    iterate 2 refine C_seq ?_
    refine C_region (l := [0, 1, 2, 3]) rfl ?_
    refine Y_move ?_
    refine X_ext rfl rfl R.ext_TypeOf rfl (fun w hw => R.tyo119 _ w) rfl ?_
    refine Y_move ?_
    refine X_invE rfl rfl rfl (R.m_AssignableTo _) R.ext_AssignableTo rfl (fun w hw => R.asg119 w) rfl ?_
    refine XD_end ?_
    refine K_then ?_
    refine C_false rfl ?_
    refine C_skip ?_
    refine K_then ?_
    iterate 2 refine C_seq ?_
    refine C_region (l := [0, 1, 2, 3, 4, 5, 6]) rfl ?_
    refine Y_move ?_
    refine X_ta rfl rfl rfl (F.ta119_163 _) rfl ?_
    refine Y_move ?_
    iterate 2 refine Y_extract ?_
    iterate 2 refine Y_assign ?_
    refine XD_end ?_
    refine K_then ?_
    refine C_seq ?_
    refine C_region (l := [0, 1, 2, 3, 4, 5]) rfl ?_
    iterate 2 refine Y_move ?_
    iterate 3 refine Y_skip ?_
    refine Y_pick ?_
    refine XD_end ?_
    refine K_then ?_
    refine C_false rfl ?_
    refine C_skip ?_
    refine K_then ?_
    refine C_seq ?_
    refine C_region (l := [0]) rfl ?_
    refine Y_move ?_
    refine XD_end ?_
    refine K_then ?_
    refine C_block ?_
    refine C_seq ?_
    refine C_region (l := [0, 1, 2]) rfl ?_
    refine X_ta rfl rfl rfl (F.ta119_152 _) rfl ?_
    iterate 2 refine Y_extract ?_
    refine XD_end ?_
    refine K_then ?_
    refine C_false rfl ?_
    refine C_seq ?_
    refine C_region (l := [0, 1, 2]) rfl ?_
    refine X_ta rfl rfl rfl (F.ta119_154 _) rfl ?_
    iterate 2 refine Y_extract ?_
    refine XD_end ?_
    refine K_then ?_
    refine C_true rfl ?_
    refine C_seq ?_
    refine C_region (l := [0]) rfl ?_
    refine Y_assign ?_
    refine XD_end ?_
    refine K_then ?_
    iterate 2 refine C_seq ?_
    refine C_region (l := [0, 1, 2, 3]) rfl ?_
    refine Y_move ?_
    refine X_invO rfl rfl rfl (F.meth119_Unwrap _) F.ok129 rfl (jUn_ok _ _ _ hb1) (Rem.here _ : Rem [] _ _) rfl ?_
    rintro _ M1 _ ⟨hM1, rfl⟩; subst M1
    refine Y_len_sl F.elem66 ?_
    refine Y_move ?_
    refine XD_end ?_
    refine K_then ?_
    refine C_block ?_
    refine Y_pk [50, 49, 48, 47, 12, 46, 45, 44, 39, 38, 37, 36, 35, 34, 33, 32, 31, 30, 10, 9, 29, 28, 25, 27, 26, 19, 18, 17, 16, 0, 8, 6, 1, 3] ?_
    refine C_loopS (.succ .zero) (fun (k : Nat) z => z = [(50, .int .i64 (k : Int))] ∧ k ≤ ws.length ∧ (k = 0)) (fun k => ws.length - k) (0) (⟨rfl, by omega, by rfl⟩) ?_
    rintro k _ ⟨rfl, hk, hI⟩
    refine C_seq ?_
    refine C_region (l := [0]) rfl ?_
    refine Y_cmp ?_
    refine XD_end ?_
    refine K_then ?_
    refine C_seq ?_
    refine C_cond rfl (fun hc3 => ?_) (fun hc3 => ?_)
    ·replace hc3 := dT hc3
     refine C_skip ?_
     refine K_then ?_
     refine C_seq ?_
     refine C_block ?_
     refine C_seq ?_
     refine C_region (l := [0, 1, 2]) rfl ?_
     refine X_indexAddr rfl rfl rfl rfl F.elem66 (by rfl) (by omega) (by exact SlM.plain (by assumption) (by (simp; omega))) rfl ?_
     refine X_load_el rfl rfl rfl (by assumption) (by exact row_map (by omega)) F.lay71 rfl rfl rfl ?_
     refine Y_assign ?_
     refine XD_end ?_
     refine K_then ?_
     iterate 2 refine C_seq ?_
     refine C_region (l := [0, 1]) rfl ?_
     obtain ⟨t3, u3, hwk⟩ := (hws.at k (by omega) (by omega)).iface
     refine Y_move ?_
     refine XD_is 54 rfl hwk ?_
     refine XD_is 14 rfl hwk ?_
     refine Y_nil Tryd.underlying71 ?_
     refine XD_end ?_
     refine K_then ?_
     refine C_cond rfl (fun hc4 => ?_) (fun hc4 => ?_)
     ·skip
      (exfalso; simp [eqX] at hc4; done)
     ·skip
      refine C_skip ?_
      refine K_then ?_
      refine C_seq ?_
      refine C_regionR (l := [0, 1, 2, 3, 4]) (Hin := [(bv, _), (bt, _)]) (by repeat first | exact Rem.here _ | exact Rem.two | apply Rem.skip | apply Rem.over) rfl ?_
      iterate 2 refine Y_move ?_
      refine Y_load F.lay140 ?_
      refine Y_move ?_
      refine X_fhR rfl rfl F.ok85 rfl (ih l1[k] _ (by have h9 := big_mem (l := l1) (k := k) (by omega); simp only [Err.big] at hb; omega) (hwk ▸ hws.at k (by omega) (by omega))) (by repeat first | exact Rem.here _ | exact Rem.two | apply Rem.skip | apply Rem.over) (fun _ _ _ hm hw => (hw.lower (by exact hm)).c) (putE_some rfl) ?_
      rintro _ M2 Hb2 _ ⟨hM2, rfl, hH2⟩; subst M2; subst hH2
      refine XD_end ?_
      refine K_then ?_
      refine C_cond rfl (fun hc5 => ?_) (fun hc5 => ?_)
      ·skip
       refine C_seq ?_
       refine C_region (l := [0]) rfl ?_
       refine Y_assign ?_
       refine XD_end ?_
       refine K_then ?_
       refine C_ret ?_
       refine K_retB ?_
       iterate 2 refine K_ret ?_
       refine K_retB ?_
       refine K_ret ?_
       iterate 2 refine K_retB ?_
       refine K_ret ?_
       refine K_retB ?_
       refine K_end (.inr rfl) (.tmp rfl .nil) (fun w hw => ?_)
       refine ⟨_, M, [(bv, rowO [.one (.pointer (some ⟨bt, 0, none⟩))] 113), (bt, rowO [.one (.int .i64 (l1[k].codes.headD 0))] 111)], rfl, Mem.le.refl M, hw.c, rfl, rfl, ?_⟩
       have hk0 := hI
       subst hk0
       have h9 := head_join hws hlp
       rw [← hc, Err.codes, h9]
      ·skip
       (exfalso; simp [eqX] at hc5; done)
    ·replace hc3 := dF hc3
     (exfalso; omega)

theorem as_ok (M : Mem) (bt bv : Nat) (z : Int) (e : Err) (v : Value) (hv : ErrV M e v) : Fh Tryd.prog 85 [v, .iface 113 (.pointer (some ⟨bt, 0, none⟩)), aggV [.one (.pointer (some ⟨5, 113, none⟩)), .one (.pointer (some ⟨bv, 0, none⟩)), .one (.int .u64 150)], .iface 148 (.agg #[.pointer (some ⟨5, 111, none⟩)])] M [(bv, rowO [.one (.pointer (some ⟨bt, 0, none⟩))] 113), (bt, rowO [.one (.int .i64 z)] 111)] (fun M' r Hout => M' = M ∧ r = .bool true ∧ Hout = [(bv, rowO [.one (.pointer (some ⟨bt, 0, none⟩))] 113), (bt, rowO [.one (.int .i64 (e.codes.headD 0))] 111)]) := as_aux M bt bv z e.big e v (Nat.le_refl _) hv

/-- What the library knows of the type error. -/
structure EG (M : Mem) : Prop where
  h : ∃ c T fz, M 0 = some (.cells c T fz) ∧ c[0]? = some (.iface 148 (.agg #[.pointer (some ⟨5, 71, none⟩)]))
theorem EG.mono {M M' : Mem} (h : EG M) (hm : M.le M') : EG M' := ⟨let ⟨c, T, fz, h1, h2⟩ := h.h; ⟨c, T, fz, hm.1 _ _ h1, h2⟩⟩

theorem eAs_ok (M : Mem) (bt : Nat) (z : Int) (e : Err) (v : Value) (he : ErrV M e v) (hE : EG M) : Fh Tryd.prog 66 [v, .iface 113 (.pointer (some ⟨bt, 0, none⟩))] M [(bt, rowO [.one (.int .i64 z)] 111)] (fun M' r Hout => M' = M ∧ r = .bool true ∧ Hout = [(bt, rowO [.one (.int .i64 (e.codes.headD 0))] 111)]) := by
  obtain ⟨t1, u1, rfl⟩ := he.iface
  obtain ⟨gc, gT, gfz, hgl, hgv⟩ := hE.h
  refine fh_enterF (fun H => (bt, rowO [.one (.int .i64 z)] 111) :: H) (fun _ => rfl) Tryd.func66 rfl Tryd.ntmps66 rfl ?_; intro H
  refine C_seq ?_
  refine C_region (l := [0]) rfl ?_
  refine Y_assign ?_
  refine XD_end ?_
  refine K_then ?_
  iterate 2 refine C_seq ?_
  refine C_region (l := [0, 1]) rfl ?_
  refine Y_move ?_
  refine Y_nil Tryd.underlying71 ?_
  refine XD_end ?_
  refine K_then ?_
  refine Y_pk [9, 4, 0, 1] ?_
  refine C_cond rfl (fun hc1 => ?_) (fun hc1 => ?_)
  ·skip
   (exfalso; simp [eqX] at hc1; done)
  ·skip
   refine C_skip ?_
   refine K_then ?_
   refine Y_pk [4, 0, 1] ?_
   iterate 2 refine C_seq ?_
   refine C_region (l := [0, 1]) rfl ?_
   refine Y_move ?_
   refine Y_nil Tryd.underlying20 ?_
   refine XD_end ?_
   refine K_then ?_
   refine Y_pk [11, 4, 0, 1] ?_
   refine C_cond rfl (fun hc2 => ?_) (fun hc2 => ?_)
   ·skip
    (exfalso; simp [eqX] at hc2; done)
   ·skip
    refine C_skip ?_
    refine K_then ?_
    refine Y_pk [4, 0, 1] ?_
    refine C_seq ?_
    refine C_region (l := [0, 1, 2, 3]) rfl ?_
    refine Y_move ?_
    refine X_extA (v := fun b => aggV [.one (.pointer (some ⟨5, 113, none⟩)), .one (.pointer (some ⟨b, 0, none⟩)), .one (.int .u64 150)]) (o := rowO [.one (.pointer (some ⟨bt, 0, none⟩))] 113) rfl rfl R.ext_ValueOf rfl (fun w => R.vo113 _ w) rfl ?_; intro bv
    refine Y_alloc F.zero140 ?_; intro b3
    refine Y_store F.lay140 ?_
    refine XD_end ?_
    refine K_then ?_
    refine Y_pk [5, 4, 0, 1] ?_
    refine C_seq ?_
    refine C_region (l := [0, 1, 2]) rfl ?_
    refine Y_load F.lay140 ?_
    refine X_ext rfl rfl R.ext_VType rfl (fun w hw => R.vty _ w) rfl ?_
    refine Y_assign ?_
    refine XD_end ?_
    refine K_then ?_
    refine Y_pk [6, 5, 4, 0, 1] ?_
    iterate 2 refine C_seq ?_
    refine C_region (l := [0, 1, 2, 3, 4, 5, 6]) rfl ?_
    refine Y_move ?_
    refine X_invE rfl rfl rfl (R.m_Kind _) R.ext_Kind rfl (fun w hw => R.kind113 w) rfl ?_
    refine Y_cmp ?_
    refine Y_move ?_
    refine XD_part 20 rfl (fun hc4 => ?_) (fun hc4 => ?_)
    ·replace hc4 := nT hc4
     (exfalso; omega)
    ·replace hc4 := nF hc4
     refine Y_load F.lay140 ?_
     refine X_ext rfl rfl R.ext_IsNil rfl (fun w hw => R.isNil _ ⟨bt, 0, none⟩ w (by rw [Go.Esp.cell_of_row (hw.own bv (rowO [.one (.pointer (some ⟨bt, 0, none⟩))] 113) (by repeat first | exact List.Mem.head _ | refine List.Mem.tail _ ?_ | refine List.mem_append_right _ ?_))]; rfl)) rfl ?_
     refine Y_pick ?_
     refine XD_end ?_
     refine K_then ?_
     refine Y_pk [23, 6, 5, 4, 0, 1] ?_
     refine C_cond rfl (fun hc5 => ?_) (fun hc5 => ?_)
     ·skip
      (exfalso; simp [eqX] at hc5; done)
     ·skip
      refine C_skip ?_
      refine K_then ?_
      refine Y_pk [6, 5, 4, 0, 1] ?_
      refine C_seq ?_
      refine C_region (l := [0, 1, 2]) rfl ?_
      refine Y_move ?_
      refine X_invE rfl rfl rfl (R.m_Elem _) R.ext_Elem rfl (fun w hw => R.elem w) rfl ?_
      refine Y_assign ?_
      refine XD_end ?_
      refine K_then ?_
      refine Y_pk [7, 5, 4, 0, 1] ?_
      iterate 2 refine C_seq ?_
      refine C_region (l := [0, 1, 2, 3, 4, 5, 6, 7, 8]) rfl ?_
      refine Y_move ?_
      refine X_invE rfl rfl rfl (R.m_Kind _) R.ext_Kind rfl (fun w hw => R.kind111 w) rfl ?_
      refine Y_cmp ?_
      refine Y_move ?_
      refine XD_part 30 rfl (fun hc6 => ?_) (fun hc6 => ?_)
      ·replace hc6 := nT hc6
       refine Y_move ?_
       refine X_load_glob rfl rfl hgl F.lay125 hgv rfl ?_
       refine X_invE rfl rfl rfl (R.m_Implements _) R.ext_Implements rfl (fun w hw => R.imp w) rfl ?_
       refine Y_not ?_
       refine Y_pick ?_
       refine XD_end ?_
       refine K_then ?_
       refine Y_pk [35, 7, 5, 4, 0, 1] ?_
       refine C_cond rfl (fun hc7 => ?_) (fun hc7 => ?_)
       ·skip
        (exfalso; simp [eqX] at hc7; done)
       ·skip
        refine C_skip ?_
        refine K_then ?_
        refine Y_pk [7, 5, 4, 0, 1] ?_
        refine C_seq ?_
        refine C_regionR (l := [0, 1, 2, 3, 4, 5]) (Hin := [(bv, _), (bt, _)]) (by repeat first | exact Rem.here _ | exact Rem.two | apply Rem.skip | apply Rem.over) rfl ?_
        iterate 2 refine Y_move ?_
        refine Y_load F.lay140 ?_
        refine Y_move ?_
        refine X_fhR rfl rfl F.ok85 rfl (as_ok M bt bv z e _ he) (by repeat first | exact Rem.here _ | exact Rem.two | apply Rem.skip | apply Rem.over) (fun _ _ _ hm hw => (hw.lower (by exact hm)).c) (putE_some rfl) ?_
        rintro _ M2 Hb2 _ ⟨hM2, rfl, hH2⟩; subst M2; subst hH2
        refine Y_assign ?_
        refine XD_end ?_
        refine K_then ?_
        refine Y_pk [4] ?_
        refine C_ret ?_
        refine K_end (.inr rfl) (.tmp rfl .nil) (fun w hw => ?_)
        exact ⟨_, M, [(bt, rowO [.one (.int .i64 (e.codes.headD 0))] 111)], rfl, Mem.le.refl M, hw.c, rfl, rfl, rfl⟩
      ·replace hc6 := nF hc6
       (exfalso; omega)

theorem bCode_ok (M : Mem) (e : Err) (v : Value) (he : ErrV M e v) (hE : EG M) : Fs Tryd.prog 31 [v] M (fun r => r = .int .i64 (e.codes.headD 0)) := by
  obtain ⟨t1, u1, rfl⟩ := he.iface
  refine fs_enter Tryd.func31 rfl Tryd.ntmps31 rfl ?_; intro H
  refine C_seq ?_
  refine C_region (l := [0]) rfl ?_
  refine Y_assign ?_
  refine XD_end ?_
  refine K_then ?_
  refine C_seq ?_
  refine C_region (l := [0]) rfl ?_
  refine Y_alloc F.zero111 ?_; intro b1
  refine XD_end ?_
  refine K_then ?_
  refine C_seq ?_
  refine C_block ?_
  refine C_seq ?_
  refine C_region (l := [0, 1, 2]) rfl ?_
  refine Y_move ?_
  refine Y_nil Tryd.underlying71 ?_
  refine Y_assign ?_
  refine XD_end ?_
  refine K_then ?_
  refine Y_pk [4, 3, 2, 0] ?_
  refine C_cond rfl (fun hc2 => ?_) (fun hc2 => ?_)
  ·skip
   (exfalso; simp [eqX] at hc2; done)
  ·skip
   refine C_seq ?_
   refine C_regionR (l := [0, 1, 2, 3]) (Hin := [(b1, _)]) (by repeat first | exact Rem.here _ | exact Rem.two | apply Rem.skip | apply Rem.over) rfl ?_
   refine Y_move ?_
   refine Y_iface Tryd.underlying113 ?_
   refine X_fhR rfl rfl F.ok66 rfl (eAs_ok M b1 0 e _ he hE) (by repeat first | exact Rem.here _ | exact Rem.two | apply Rem.skip | apply Rem.over) (fun _ _ _ hm hw => (hw.lower (by exact hm)).c) (putE_some rfl) ?_
   rintro _ M2 Hb2 _ ⟨hM2, rfl, hH2⟩; subst M2; subst hH2
   refine Y_assign ?_
   refine XD_end ?_
   refine K_then ?_
   refine Y_pk [7, 3, 2] ?_
   refine C_cond rfl (fun hc3 => ?_) (fun hc3 => ?_)
   ·skip
    refine C_seq ?_
    refine C_region (l := [0, 1, 2]) rfl ?_
    refine Y_fieldAddr F.foff111_0 ?_
    refine Y_load F.lay29 ?_
    refine Y_assign ?_
    refine XD_end ?_
    refine K_then ?_
    refine Y_pk [2] ?_
    refine C_ret ?_
    refine K_retB ?_
    refine K_ret ?_
    refine K_end (.inr rfl) (.tmp rfl .nil) (fun w hw => ?_)
    exact ⟨_, rfl, hw.c, rfl⟩
   ·skip
    (exfalso; simp [eqX] at hc3; done)

end Go.Proofs.YtelpkhhfjfbkcaaDoor
