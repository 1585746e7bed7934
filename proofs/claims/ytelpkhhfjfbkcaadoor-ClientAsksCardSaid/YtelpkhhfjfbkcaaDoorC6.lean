/-
  Errors.
-/
import Derived.Test.YtelpkhhfjfbkcaaDoorC5
import Derived.Test.YtelpkhhfjfbkcaaDoorErrM
set_option linter.unusedSimpArgs false
set_option linter.unusedVariables false
set_option linter.unnecessarySimpa false
set_option maxRecDepth 8000
namespace Go.Proofs.YtelpkhhfjfbkcaaDoor
open Go.Esp
theorem F.bld111 : Bld Tryd.prog 111 [[.one (.int .i64 0)]] := ⟨by kernel_rfl, by kernel_rfl⟩
theorem F.bld118 : Bld Tryd.prog 118 [[.one (.string ⟨#[]⟩)], [.one .nilIface]] := ⟨by kernel_rfl, by kernel_rfl⟩
theorem F.elem66 : slOf Tryd.prog 66 = some (71, 1, 16) := by kernel_rfl
theorem F.foff118_1 : foff Tryd.prog 118 1 = some 1 := by kernel_rfl
theorem F.foff121_0 : foff Tryd.prog 121 0 = some 0 := by kernel_rfl
theorem F.kinds111 : kindsOf Tryd.prog 20 111 = some [.i .i64] := by kernel_rfl
theorem F.lay111 : lay Tryd.prog 111 = some (true, 1) := by kernel_rfl
theorem F.lay66 : lay Tryd.prog 66 = some (false, 1) := by kernel_rfl
theorem F.lay71 : lay Tryd.prog 71 = some (false, 1) := by kernel_rfl
theorem F.meth116_Unwrap (p : Option Addr) : Meth Tryd.prog 116 (.pointer p) "Unwrap" 127 (.pointer p) := fun w => by kernel_rfl
theorem F.meth119_Unwrap (p : Option Addr) : Meth Tryd.prog 119 (.pointer p) "Unwrap" 129 (.pointer p) := fun w => by kernel_rfl
theorem F.ok127 : okFn Tryd.prog 127 = true := by kernel_rfl
theorem F.ok129 : okFn Tryd.prog 129 = true := by kernel_rfl
theorem F.ok69 : okFn Tryd.prog 69 = true := by kernel_rfl
theorem F.ta111_150 (v : Value) (w : World) : (Instr.typeAssert (.iface 111 v) 71 150 true).run Tryd.prog w = .ok (.tuple #[.nilIface, .bool false]) w := run_typeAssert_lacksB Tryd.underlying150 (by kernel_rfl) (by kernel_rfl) v 71 w
theorem F.ta111_152 (v : Value) (w : World) : (Instr.typeAssert (.iface 111 v) 71 152 true).run Tryd.prog w = .ok (.tuple #[.nilIface, .bool false]) w := run_typeAssert_lacksB Tryd.underlying152 (by kernel_rfl) (by kernel_rfl) v 71 w
theorem F.ta111_154 (v : Value) (w : World) : (Instr.typeAssert (.iface 111 v) 71 154 true).run Tryd.prog w = .ok (.tuple #[.nilIface, .bool false]) w := run_typeAssert_lacksB Tryd.underlying154 (by kernel_rfl) (by kernel_rfl) v 71 w
theorem F.ta116_150 (v : Value) (w : World) : (Instr.typeAssert (.iface 116 v) 71 150 true).run Tryd.prog w = .ok (.tuple #[.nilIface, .bool false]) w := run_typeAssert_lacksB Tryd.underlying150 (by kernel_rfl) (by kernel_rfl) v 71 w
theorem F.ta116_152 (v : Value) (w : World) : (Instr.typeAssert (.iface 116 v) 71 152 true).run Tryd.prog w = .ok (.tuple #[.iface 116 v, .bool true]) w := run_typeAssert_hasB Tryd.underlying152 (by kernel_rfl) v 71 w
theorem F.ta119_150 (v : Value) (w : World) : (Instr.typeAssert (.iface 119 v) 71 150 true).run Tryd.prog w = .ok (.tuple #[.nilIface, .bool false]) w := run_typeAssert_lacksB Tryd.underlying150 (by kernel_rfl) (by kernel_rfl) v 71 w
theorem F.ta119_152 (v : Value) (w : World) : (Instr.typeAssert (.iface 119 v) 71 152 true).run Tryd.prog w = .ok (.tuple #[.nilIface, .bool false]) w := run_typeAssert_lacksB Tryd.underlying152 (by kernel_rfl) (by kernel_rfl) v 71 w
theorem F.ta119_154 (v : Value) (w : World) : (Instr.typeAssert (.iface 119 v) 71 154 true).run Tryd.prog w = .ok (.tuple #[.iface 119 v, .bool true]) w := run_typeAssert_hasB Tryd.underlying154 (by kernel_rfl) v 71 w

theorem bNew_ok (M : Mem) (c : Int) : Fs Tryd.prog 45 [.int .i64 c] M (fun v => v = newE c) := by
  refine fs_enter Tryd.func45 rfl Tryd.ntmps45 rfl ?_; intro H
  refine C_seq ?_
  refine C_region (l := [0]) rfl ?_
  refine Y_assign ?_
  refine XD_end ?_
  refine K_then ?_
  iterate 2 refine C_seq ?_
  refine C_region (l := [0, 1]) rfl ?_
  refine Y_move ?_
  refine Y_cmp ?_
  refine XD_end ?_
  refine K_then ?_
  refine Y_pk [4, 2, 0] ?_
  refine C_cond rfl (fun hc1 => ?_) (fun hc1 => ?_)
  ·replace hc1 := dT hc1
   refine C_seq ?_
   refine C_region (l := [0]) rfl ?_
   refine Y_assign ?_
   refine XD_end ?_
   refine K_then ?_
   refine Y_pk [2, 0] ?_
   refine C_ret ?_
   refine K_ret ?_
   refine K_end (.inr rfl) (.tmp rfl .nil) (fun w hw => ?_)
   refine ⟨_, rfl, hw.c, ?_⟩
   unfold newE
   rw [if_pos (by omega)]; rfl
  ·replace hc1 := dF hc1
   refine C_skip ?_
   refine K_then ?_
   refine Y_pk [2, 0] ?_
   refine C_seq ?_
   refine C_region (l := [0, 1, 2, 3]) rfl ?_
   refine Y_move ?_
   refine X_build rfl rfl F.bld111 (.cons rfl (by constructor) .nil) rfl rfl ?_
   refine Y_iface Tryd.underlying111 ?_
   refine Y_assign ?_
   refine XD_end ?_
   refine K_then ?_
   refine Y_pk [2] ?_
   refine C_ret ?_
   refine K_end (.inr rfl) (.tmp rfl .nil) (fun w hw => ?_)
   refine ⟨_, rfl, hw.c, ?_⟩
   unfold newE
   rw [if_neg (by omega)]; rfl

theorem bWrap_nil (M : Mem) (op : ByteArray) : Fs Tryd.prog 43 [.string op, .nilIface] M (fun v => v = .nilIface) := by
  refine fs_enter Tryd.func43 rfl Tryd.ntmps43 rfl ?_; intro H
  refine C_seq ?_
  refine C_region (l := [0]) rfl ?_
  refine Y_assign ?_
  refine XD_end ?_
  refine K_then ?_
  iterate 2 refine C_seq ?_
  refine C_region (l := [0, 1]) rfl ?_
  refine Y_move ?_
  refine Y_nil Tryd.underlying71 ?_
  refine XD_end ?_
  refine K_then ?_
  refine Y_pk [6, 4, 0, 1] ?_
  refine C_cond rfl (fun hc1 => ?_) (fun hc1 => ?_)
  ·skip
   refine C_seq ?_
   refine C_region (l := [0]) rfl ?_
   refine Y_assign ?_
   refine XD_end ?_
   refine K_then ?_
   refine Y_pk [4, 0, 1] ?_
   refine C_ret ?_
   refine K_ret ?_
   refine K_end (.inr rfl) (.tmp rfl .nil) (fun w hw => ?_)
   refine ⟨_, rfl, hw.c, rfl⟩
  ·skip
   (exfalso; simp [eqX] at hc1; done)

theorem bWrap_ok (M : Mem) (op : ByteArray) (e : Err) (v : Value) (he : ErrV M e v) : Esp.Fn Tryd.prog 43 [.string op, v] M (fun M' u => ErrV M' (.wrap op e) u) := by
  obtain ⟨t1, u1, rfl⟩ := he.iface
  refine fn_enter Tryd.func43 rfl Tryd.ntmps43 rfl ?_; intro H
  refine C_seq ?_
  refine C_region (l := [0]) rfl ?_
  refine Y_assign ?_
  refine XD_end ?_
  refine K_then ?_
  iterate 2 refine C_seq ?_
  refine C_region (l := [0, 1]) rfl ?_
  refine Y_move ?_
  refine Y_nil Tryd.underlying71 ?_
  refine XD_end ?_
  refine K_then ?_
  refine Y_pk [6, 4, 0, 1] ?_
  refine C_cond rfl (fun hc1 => ?_) (fun hc1 => ?_)
  ·skip
   (exfalso; simp [eqX] at hc1; done)
  ·skip
   refine C_skip ?_
   refine K_then ?_
   refine Y_pk [4, 0, 1] ?_
   refine C_seq ?_
   refine C_region (l := [0, 1, 2, 3, 4, 5]) rfl ?_
   iterate 2 refine Y_move ?_
   refine X_build rfl rfl F.bld118 (.cons rfl (by constructor) (.cons rfl (by constructor) .nil)) rfl rfl ?_
   refine Y_box ?_; intro b2
   refine Y_iface Tryd.underlying116 ?_
   refine Y_assign ?_
   refine XD_end ?_
   refine K_then ?_
   refine Y_pk [4] ?_
   refine C_ret ?_
   refine K_end (.inr rfl) (.tmp rfl .nil) (fun w hw => ?_)
   have hw2 : St M ((b2, rowO [.one (.string op), .one (.iface t1 u1)] 118) :: H) w := hw.c
   obtain ⟨h1, h2⟩ := hw2.freeze
   exact ⟨_, _, rfl, h1, h2, b2, _, rfl, Mem.add_self _ _ _, he.mono h1⟩

theorem wUn_ok (M : Mem) (b : Nat) (s : ByteArray) (u : Value) (hb : M b = some (rowO [.one (.string s), .one u] 118)) : Fo Tryd.prog 127 [.pointer (some ⟨b, 0, none⟩)] M [] (fun M' v => M' = M ∧ v = u) := by
  refine fo_enter Tryd.func127 rfl Tryd.ntmps127 rfl ?_; intro H
  refine C_seq ?_
  refine C_region (l := [0]) rfl ?_
  refine Y_assign ?_
  refine XD_end ?_
  refine K_then ?_
  refine C_seq ?_
  refine C_region (l := [0, 1, 2, 3, 4]) rfl ?_
  refine Y_move ?_
  refine Y_nilCheck ?_
  refine Y_fieldAddr F.foff118_1 ?_
  refine X_load_mem rfl rfl rfl (by assumption) F.lay71 rfl rfl rfl ?_
  refine Y_assign ?_
  refine XD_end ?_
  refine K_then ?_
  refine Y_pk [2] ?_
  refine C_ret ?_
  refine K_end (.inr rfl) (.tmp rfl .nil) (fun w hw => ?_)
  exact ⟨_, M, rfl, Mem.le.refl M, hw.c, rfl, rfl⟩

theorem jUn_ok (M : Mem) (b : Nat) (u : Value) (hb : M b = some (rowO [.one u] 121)) : Fo Tryd.prog 129 [.pointer (some ⟨b, 0, none⟩)] M [] (fun M' v => M' = M ∧ v = u) := by
  refine fo_enter Tryd.func129 rfl Tryd.ntmps129 rfl ?_; intro H
  refine C_seq ?_
  refine C_region (l := [0]) rfl ?_
  refine Y_assign ?_
  refine XD_end ?_
  refine K_then ?_
  refine C_seq ?_
  refine C_region (l := [0, 1, 2, 3, 4]) rfl ?_
  refine Y_move ?_
  refine Y_nilCheck ?_
  refine Y_fieldAddr F.foff121_0 ?_
  refine X_load_mem rfl rfl rfl (by assumption) F.lay66 rfl rfl rfl ?_
  refine Y_assign ?_
  refine XD_end ?_
  refine K_then ?_
  refine Y_pk [2] ?_
  refine C_ret ?_
  refine K_end (.inr rfl) (.tmp rfl .nil) (fun w hw => ?_)
  exact ⟨_, M, rfl, Mem.le.refl M, hw.c, rfl, rfl⟩

theorem is_aux (M : Mem) (x : Int) : ∀ (n : Nat) (e : Err) (v : Value), e.big ≤ n → ErrV M e v → Fs Tryd.prog 69 [v, .iface 111 (aggV [.one (.int .i64 x)]), .bool true] M (fun r => r = .bool (decide (x ∈ e.codes)))
  |0, e, v, hn, hv0 => by cases e <;> simp [Err.big] at hn
  |n + 1, e, v, hn, hv0 => by
   have ih := fun e v (h : Err.big e ≤ n) h2 => is_aux M x n e v h h2
   refine fs_enter Tryd.func69 rfl Tryd.ntmps69 rfl ?_; intro H
   refine C_seq ?_
   refine C_region (l := [0]) rfl ?_
   refine Y_assign ?_
   refine XD_end ?_
   refine K_then ?_
   refine C_block ?_
   refine Y_pk [0, 6, 1, 2] ?_
   refine C_loopS (.succ .zero) (fun (e1 : Err) z => ∃ v1, z = [(0, v1)] ∧ ErrV M e1 v1 ∧ e1.big ≤ e.big ∧ (x ∈ e1.codes ↔ x ∈ e.codes)) (Err.big) (e) (⟨v, rfl, hv0, Nat.le_refl _, Iff.rfl⟩) ?_
   rintro e1 z ⟨v1, rfl, hv, hb, hc⟩
   rcases e1 with c | ⟨op1, e2⟩ | l1
   ·obtain rfl : v1 = .iface 111 (aggV [.one (.int .i64 c)]) := hv
    refine C_block ?_
    iterate 2 refine C_seq ?_
    refine C_region (l := [0, 1, 2, 3, 4, 5]) rfl ?_
    iterate 4 refine Y_move ?_
    refine X_ifeq rfl rfl rfl rfl rfl (run_eq_code (m := 20) Tryd.underlying71 (by kernel_rfl) F.kinds111 (by decide) F.lay111) rfl ?_
    refine Y_pick ?_
    refine XD_end ?_
    refine K_then ?_
    refine C_cond rfl (fun hc1 => ?_) (fun hc1 => ?_)
    ·replace hc1 := dT hc1
     refine C_seq ?_
     refine C_region (l := [0]) rfl ?_
     refine Y_assign ?_
     refine XD_end ?_
     refine K_then ?_
     refine C_ret ?_
     refine K_ret ?_
     refine K_retB ?_
     refine K_ret ?_
     refine K_retB ?_
     refine K_end (.inr rfl) (.tmp rfl .nil) (fun w hw => ?_)
     refine ⟨_, rfl, hw.c, ?_⟩
     clear hw
     refine congrArg Value.bool ?_
     simp only [Err.codes] at hc
     grind
    ·replace hc1 := dF hc1
     refine C_skip ?_
     refine K_then ?_
     iterate 2 refine C_seq ?_
     refine C_region (l := [0, 1, 2, 3, 4, 5, 6]) rfl ?_
     refine Y_move ?_
     refine X_ta rfl rfl rfl (F.ta111_150 _) rfl ?_
     refine Y_move ?_
     iterate 2 refine Y_extract ?_
     iterate 2 refine Y_assign ?_
     refine XD_end ?_
     refine K_then ?_
     refine C_seq ?_
     refine C_region (l := [0, 1, 2, 3, 4, 5]) rfl ?_
     iterate 2 refine Y_move ?_
     iterate 3 refine Y_skip ?_
     refine Y_pick ?_
     refine XD_end ?_
     refine K_then ?_
     refine C_false rfl ?_
     refine C_skip ?_
     refine K_then ?_
     refine C_seq ?_
     refine C_region (l := [0]) rfl ?_
     refine Y_move ?_
     refine XD_end ?_
     refine K_then ?_
     refine C_block ?_
     refine C_seq ?_
     refine C_region (l := [0, 1, 2]) rfl ?_
     refine X_ta rfl rfl rfl (F.ta111_152 _) rfl ?_
     iterate 2 refine Y_extract ?_
     refine XD_end ?_
     refine K_then ?_
     refine C_false rfl ?_
     refine C_seq ?_
     refine C_region (l := [0, 1, 2]) rfl ?_
     refine X_ta rfl rfl rfl (F.ta111_154 _) rfl ?_
     iterate 2 refine Y_extract ?_
     refine XD_end ?_
     refine K_then ?_
     refine C_false rfl ?_
     refine C_seq ?_
     refine C_region (l := [0]) rfl ?_
     refine Y_assign ?_
     refine XD_end ?_
     refine K_then ?_
     refine Y_pk [41, 40, 39, 34, 33, 32, 31, 30, 29, 28, 27, 26, 25, 8, 7, 24, 23, 20, 22, 21, 19, 18, 17, 16, 15, 14, 0, 6, 1, 2] ?_
     refine C_seq ?_
     refine C_region (l := [0]) rfl ?_
     refine Y_assign ?_
     refine XD_end ?_
     refine K_then ?_
     refine C_ret ?_
     iterate 2 refine K_retB ?_
     refine K_ret ?_
     refine K_retB ?_
     refine K_end (.inr rfl) (.tmp rfl .nil) (fun w hw => ?_)
     refine ⟨_, rfl, hw.c, ?_⟩
     clear hw
     refine congrArg Value.bool ?_
     simp only [Err.codes] at hc
     grind
   ·obtain ⟨b1, w1, rfl, hb1, hw1⟩ := hv
    obtain ⟨t1, u1, rfl⟩ := hw1.iface
    refine C_block ?_
    iterate 2 refine C_seq ?_
    refine C_region (l := [0, 1, 2, 3, 4, 5]) rfl ?_
    iterate 4 refine Y_move ?_
    refine X_ifeq rfl rfl rfl rfl rfl (run_eq_apart Tryd.underlying71 (by decide)) rfl ?_
    refine Y_pick ?_
    refine XD_end ?_
    refine K_then ?_
    refine C_false rfl ?_
    refine C_skip ?_
    refine K_then ?_
    iterate 2 refine C_seq ?_
    refine C_region (l := [0, 1, 2, 3, 4, 5, 6]) rfl ?_
    refine Y_move ?_
    refine X_ta rfl rfl rfl (F.ta116_150 _) rfl ?_
    refine Y_move ?_
    iterate 2 refine Y_extract ?_
    iterate 2 refine Y_assign ?_
    refine XD_end ?_
    refine K_then ?_
    refine C_seq ?_
    refine C_region (l := [0, 1, 2, 3, 4, 5]) rfl ?_
    iterate 2 refine Y_move ?_
    iterate 3 refine Y_skip ?_
    refine Y_pick ?_
    refine XD_end ?_
    refine K_then ?_
    refine C_false rfl ?_
    refine C_skip ?_
    refine K_then ?_
    refine C_seq ?_
    refine C_region (l := [0]) rfl ?_
    refine Y_move ?_
    refine XD_end ?_
    refine K_then ?_
    refine C_block ?_
    refine C_seq ?_
    refine C_region (l := [0, 1, 2]) rfl ?_
    refine X_ta rfl rfl rfl (F.ta116_152 _) rfl ?_
    iterate 2 refine Y_extract ?_
    refine XD_end ?_
    refine K_then ?_
    refine C_true rfl ?_
    refine C_seq ?_
    refine C_region (l := [0]) rfl ?_
    refine Y_assign ?_
    refine XD_end ?_
    refine K_then ?_
    refine C_seq ?_
    refine C_region (l := [0, 1, 2]) rfl ?_
    refine Y_move ?_
    refine X_invO rfl rfl rfl (F.meth116_Unwrap _) F.ok127 rfl (wUn_ok _ _ _ _ hb1) (Rem.here _ : Rem [] _ _) rfl ?_
    rintro _ M1 _ ⟨hM1, rfl⟩; subst M1
    refine Y_assign ?_
    refine XD_end ?_
    refine K_then ?_
    refine C_seq ?_
    refine C_region (l := [0, 1]) rfl ?_
    refine Y_move ?_
    refine Y_nil Tryd.underlying71 ?_
    refine XD_end ?_
    refine K_then ?_
    refine C_cond rfl (fun hc2 => ?_) (fun hc2 => ?_)
    ·skip
     (exfalso; simp [eqX] at hc2; done)
    ·skip
     refine C_skip ?_
     iterate 2 refine K_out ?_
     refine K_roundS (a' := [(0, _)]) (e2) (.cons (k := 0) rfl (.cons (k := 6) rfl (.cons (k := 1) rfl (.cons (k := 2) rfl (.nil))))) (fun w hw => by first | exact hw | exact hw.c) ?_ ?_
     ·exact ⟨_, rfl, hw1, by simp only [Err.big] at hb; omega, by simpa only [Err.codes] using hc⟩
     ·simp only [Err.big]; omega
   ·obtain ⟨hne, b1, ws, a1, c1, rfl, hb1, hs1, hl1, hws⟩ := hv
    have hlw := hws.len
    have nws : (ws.map fun u => ([.one u] : Segs)).length = ws.length := List.length_map ..
    have ml1 : ws.length ≤ 9223372036854775807 := hl1
    refine C_block ?_
    iterate 2 refine C_seq ?_
    refine C_region (l := [0, 1, 2, 3, 4, 5]) rfl ?_
    iterate 4 refine Y_move ?_
    refine X_ifeq rfl rfl rfl rfl rfl (run_eq_apart Tryd.underlying71 (by decide)) rfl ?_
    refine Y_pick ?_
    refine XD_end ?_
    refine K_then ?_
    refine C_false rfl ?_
    refine C_skip ?_
    refine K_then ?_
    iterate 2 refine C_seq ?_
    refine C_region (l := [0, 1, 2, 3, 4, 5, 6]) rfl ?_
    refine Y_move ?_
    refine X_ta rfl rfl rfl (F.ta119_150 _) rfl ?_
    refine Y_move ?_
    iterate 2 refine Y_extract ?_
    iterate 2 refine Y_assign ?_
    refine XD_end ?_
    refine K_then ?_
    refine C_seq ?_
    refine C_region (l := [0, 1, 2, 3, 4, 5]) rfl ?_
    iterate 2 refine Y_move ?_
    iterate 3 refine Y_skip ?_
    refine Y_pick ?_
    refine XD_end ?_
    refine K_then ?_
    refine C_false rfl ?_
    refine C_skip ?_
    refine K_then ?_
    refine C_seq ?_
    refine C_region (l := [0]) rfl ?_
    refine Y_move ?_
    refine XD_end ?_
    refine K_then ?_
    refine C_block ?_
    refine C_seq ?_
    refine C_region (l := [0, 1, 2]) rfl ?_
    refine X_ta rfl rfl rfl (F.ta119_152 _) rfl ?_
    iterate 2 refine Y_extract ?_
    refine XD_end ?_
    refine K_then ?_
    refine C_false rfl ?_
    refine C_seq ?_
    refine C_region (l := [0, 1, 2]) rfl ?_
    refine X_ta rfl rfl rfl (F.ta119_154 _) rfl ?_
    iterate 2 refine Y_extract ?_
    refine XD_end ?_
    refine K_then ?_
    refine C_true rfl ?_
    refine C_seq ?_
    refine C_region (l := [0]) rfl ?_
    refine Y_assign ?_
    refine XD_end ?_
    refine K_then ?_
    iterate 2 refine C_seq ?_
    refine C_region (l := [0, 1, 2, 3]) rfl ?_
    refine Y_move ?_
    refine X_invO rfl rfl rfl (F.meth119_Unwrap _) F.ok129 rfl (jUn_ok _ _ _ hb1) (Rem.here _ : Rem [] _ _) rfl ?_
    rintro _ M1 _ ⟨hM1, rfl⟩; subst M1
    refine Y_len_sl F.elem66 ?_
    refine Y_move ?_
    refine XD_end ?_
    refine K_then ?_
    refine C_block ?_
    refine Y_pk [45, 44, 43, 42, 10, 41, 40, 39, 34, 33, 32, 31, 30, 29, 28, 27, 26, 25, 8, 7, 24, 23, 20, 22, 21, 19, 18, 17, 16, 15, 14, 0, 6, 1, 2] ?_
    refine C_loopS (.succ .zero) (fun (k : Nat) z => z = [(45, .int .i64 (k : Int))] ∧ k ≤ ws.length ∧ (x ∉ codesL (l1.take k))) (fun k => ws.length - k) (0) (⟨rfl, by omega, by simp [codesL]⟩) ?_
    rintro k _ ⟨rfl, hk, hI⟩
    refine C_seq ?_
    refine C_region (l := [0]) rfl ?_
    refine Y_cmp ?_
    refine XD_end ?_
    refine K_then ?_
    refine C_seq ?_
    refine C_cond rfl (fun hc3 => ?_) (fun hc3 => ?_)
    ·replace hc3 := dT hc3
     refine C_skip ?_
     refine K_then ?_
     refine C_seq ?_
     refine C_block ?_
     refine C_seq ?_
     refine C_region (l := [0, 1, 2]) rfl ?_
     refine X_indexAddr rfl rfl rfl rfl F.elem66 (by rfl) (by omega) (by exact SlM.plain (by assumption) (by (simp; omega))) rfl ?_
     refine X_load_el rfl rfl rfl (by assumption) (by exact row_map (by omega)) F.lay71 rfl rfl rfl ?_
     refine Y_assign ?_
     refine XD_end ?_
     refine K_then ?_
     refine C_seq ?_
     refine C_region (l := [0, 1, 2, 3]) rfl ?_
     iterate 3 refine Y_move ?_
     refine X_fs rfl rfl F.ok69 rfl (ih _ _ (by have h9 := big_mem (l := l1) (k := k) (by omega); simp only [Err.big] at hb; omega) (hws.at k (by omega) (by omega))) rfl ?_
     rintro _ rfl
     refine XD_end ?_
     refine K_then ?_
     refine C_cond rfl (fun hc4 => ?_) (fun hc4 => ?_)
     ·replace hc4 := dT hc4
      refine C_seq ?_
      refine C_region (l := [0]) rfl ?_
      refine Y_assign ?_
      refine XD_end ?_
      refine K_then ?_
      refine C_ret ?_
      refine K_retB ?_
      iterate 2 refine K_ret ?_
      refine K_retB ?_
      refine K_ret ?_
      iterate 2 refine K_retB ?_
      refine K_ret ?_
      refine K_retB ?_
      refine K_end (.inr rfl) (.tmp rfl .nil) (fun w hw => ?_)
      refine ⟨_, rfl, hw.c, ?_⟩
      clear hw
      refine congrArg Value.bool ?_
      simp only [Err.codes] at hc
      (have hd := codesL_take (l := l1) (k := k) (by omega); have hsub : x ∈ codesL l1 := codesL_sub (by rw [hd]; exact List.mem_append_right _ (by simp_all)); simp_all; done)
     ·replace hc4 := dF hc4
      refine C_skip ?_
      refine K_out ?_
      refine K_then ?_
      refine C_region (l := [0, 1]) rfl ?_
      refine X_ari rfl rfl rfl rfl rfl (by exact wrap_in (by decide) (by omega)) rfl ?_
      refine Y_move ?_
      refine XD_end ?_
      refine K_roundS (a' := [(45, _)]) (k + 1) (.cons (k := 45) rfl (.cons (k := 44) rfl (.cons (k := 43) rfl (.cons (k := 42) rfl (.cons (k := 10) rfl (.cons (k := 41) rfl (.cons (k := 40) rfl (.cons (k := 39) rfl (.cons (k := 34) rfl (.cons (k := 33) rfl (.cons (k := 32) rfl (.cons (k := 31) rfl (.cons (k := 30) rfl (.cons (k := 29) rfl (.cons (k := 28) rfl (.cons (k := 27) rfl (.cons (k := 26) rfl (.cons (k := 25) rfl (.cons (k := 8) rfl (.cons (k := 7) rfl (.cons (k := 24) rfl (.cons (k := 23) rfl (.cons (k := 20) rfl (.cons (k := 22) rfl (.cons (k := 21) rfl (.cons (k := 19) rfl (.cons (k := 18) rfl (.cons (k := 17) rfl (.cons (k := 16) rfl (.cons (k := 15) rfl (.cons (k := 14) rfl (.cons (k := 0) rfl (.cons (k := 6) rfl (.cons (k := 1) rfl (.cons (k := 2) rfl (.nil)))))))))))))))))))))))))))))))))))) (fun w hw => by first | exact hw | exact hw.c) ?_ ?_
      ·refine ⟨rfl, by omega, ?_⟩
       rw [codesL_take (by omega)]; simp_all
      ·omega
    ·replace hc3 := dF hc3
     refine C_exit ?_
     iterate 2 refine K_exit ?_
     refine K_hit ?_
     refine K_then ?_
     refine C_seq ?_
     refine C_region (l := [0]) rfl ?_
     refine Y_assign ?_
     refine XD_end ?_
     refine K_then ?_
     refine C_ret ?_
     iterate 2 refine K_retB ?_
     refine K_ret ?_
     refine K_retB ?_
     refine K_end (.inr rfl) (.tmp rfl .nil) (fun w hw => ?_)
     refine ⟨_, rfl, hw.c, ?_⟩
     clear hw
     refine congrArg Value.bool ?_
     simp only [Err.codes] at hc
     grind

theorem is_ok (M : Mem) (x : Int) (e : Err) (v : Value) (hv : ErrV M e v) : Fs Tryd.prog 69 [v, .iface 111 (aggV [.one (.int .i64 x)]), .bool true] M (fun r => r = .bool (decide (x ∈ e.codes))) := is_aux M x e.big e v (Nat.le_refl _) hv

end Go.Proofs.YtelpkhhfjfbkcaaDoor
