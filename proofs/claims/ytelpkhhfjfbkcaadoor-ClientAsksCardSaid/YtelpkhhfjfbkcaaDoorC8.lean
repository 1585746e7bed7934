/-
  What becomes of what a client asks.
-/
import Derived.Test.YtelpkhhfjfbkcaaDoorC7
import Derived.Test.YtelpkhhfjfbkcaaDoorClientN
set_option linter.unusedSimpArgs false
set_option linter.unusedVariables false
set_option linter.unnecessarySimpa false
set_option maxRecDepth 8000
namespace Go.Proofs.YtelpkhhfjfbkcaaDoor
open Go.Esp
theorem F.bld45 : Bld Tryd.prog 45 [[.one (.bool false)], [.one (.int .i64 0), .one (.int .u64 0), .one (.bool false), .one (.string ⟨#[]⟩)]] := ⟨by kernel_rfl, by kernel_rfl⟩
theorem F.lay45 : lay Tryd.prog 45 = some (true, 5) := by kernel_rfl
theorem F.ok43 : okFn Tryd.prog 43 = true := by kernel_rfl
theorem F.ok45 : okFn Tryd.prog 45 = true := by kernel_rfl
theorem F.zero45 : zeroOf Tryd.prog 45 = some (aggV [.one (.bool false), .one (.int .i64 0), .one (.int .u64 0), .one (.bool false), .one (.string ⟨#[]⟩)]) := by kernel_rfl

theorem end_ok (M : Mem) (c : ClientV) (a : AnswerV) : Fs Tryd.prog 51 [c.enc, a.enc] M (fun v => v = ofTri (endR c a)) := by
  obtain ⟨c_num, c_req, c_busy, c_key, ⟨c_op_client, c_op_req, c_op_kind, c_op_version, c_op_val⟩, c_tries⟩ := c
  obtain ⟨a_code, a_version, a_has, a_val⟩ := a
  refine fs_enter Tryd.func51 rfl Tryd.ntmps51 rfl ?_; intro H
  refine C_seq ?_
  refine C_region (l := [0, 1, 2, 3, 4]) rfl ?_
  refine Y_box ?_; intro b1
  refine Y_box ?_; intro b2
  refine Y_alloc F.zero28 ?_; intro b3
  refine Y_alloc F.zero45 ?_; intro b4
  refine Y_assign ?_
  refine XD_end ?_
  refine K_then ?_
  refine Y_pk [6, 5, 4, 3, 2] ?_
  refine C_seq ?_
  refine C_region (l := [0, 1]) rfl ?_
  refine Y_fieldAddr F.foff28_2 ?_
  refine Y_store F.lay4 ?_
  refine XD_end ?_
  refine K_then ?_
  refine Y_pk [6, 5, 4, 3, 2] ?_
  refine C_seq ?_
  refine C_region_anyWR2 (l := [0, 1, 2, 3, 4, 5]) (Hin := [(b3, _)]) (Hin2 := [(b4, _)]) [3, 4] #[0, 0, 2, 1, 15, 31] (by repeat first | exact Rem.here _ | exact Rem.two | apply Rem.skip | apply Rem.over) (by repeat first | exact Rem.here _ | exact Rem.two | apply Rem.skip | apply Rem.over) rfl (by kernel_rfl) (by kernel_rfl) ?_
  refine Y_load F.lay28 ?_
  refine Y_load F.lay37 ?_
  refine X_build rfl rfl F.bld45 (.cons rfl (by constructor) (.cons rfl (by constructor) .nil)) rfl rfl ?_
  refine X_storeE rfl rfl rfl rfl rfl (by constructor) (by ((try simp only [cat, List.cons_append, List.nil_append, List.append_nil]); (repeat (first | exact flat_nil | refine flat_id ?_ | (refine flat_one ?_ ?_; rfl))); done)) (by repeat first | exact Upd.head | apply Upd.tail | apply Upd.over) F.lay28 rfl rfl (fun _ h => h.c) ?_
  refine X_storeE rfl rfl rfl rfl rfl (by constructor) (by ((try simp only [cat, List.cons_append, List.nil_append, List.append_nil]); (repeat (first | exact flat_nil | refine flat_id ?_ | (refine flat_one ?_ ?_; rfl))); done)) (by repeat first | exact Upd.head | apply Upd.tail | apply Upd.over) F.lay45 rfl rfl (fun _ h => h.c) ?_
  refine Y_assign ?_
  refine XD_end ?_
  refine K_unw ?_
  refine K_then ?_
  refine Y_pk [6, 5, 4] ?_
  refine C_ret ?_
  refine K_end (.inr rfl) (.cell rfl (by repeat first | exact List.Mem.head _ | refine List.Mem.tail _ ?_ | refine List.mem_append_right _ ?_) F.lay28 rfl rfl (.cell rfl (by repeat first | exact List.Mem.head _ | refine List.Mem.tail _ ?_ | refine List.mem_append_right _ ?_) F.lay45 rfl rfl (.tmp rfl .nil))) (fun w hw => ?_)
  refine ⟨_, rfl, (hw.c), ?_⟩
  clear hw
  refine congrArg ofTri (a₁ := (⟨_, _, _, _, ⟨_, _, _, _, _⟩, _⟩, ⟨_, ⟨_, _, _, _⟩⟩, _)) ?_
  rfl

theorem try_out (M : Mem) (c : ClientV) (b : Int) (h : b ≤ c.tries) : Esp.Fn Tryd.prog 52 [c.enc, .int .i64 b] M (fun M' v => ∃ u, v = .tuple #[c.enc, u] ∧ ErrV M' (.wrap askT (.code 10)) u) := by
  obtain ⟨c_num, c_req, c_busy, c_key, ⟨c_op_client, c_op_req, c_op_kind, c_op_version, c_op_val⟩, c_tries⟩ := c
  simp only at h
  refine fn_enter Tryd.func52 rfl Tryd.ntmps52 rfl ?_; intro H
  refine C_seq ?_
  refine C_region (l := [0, 1, 2]) rfl ?_
  refine Y_box ?_; intro b1
  refine Y_alloc F.zero28 ?_; intro b2
  refine Y_assign ?_
  refine XD_end ?_
  refine K_then ?_
  refine Y_pk [5, 4, 2, 1] ?_
  iterate 2 refine C_seq ?_
  refine C_region (l := [0, 1, 2, 3]) rfl ?_
  refine Y_fieldAddr F.foff28_5 ?_
  refine Y_load F.lay3 ?_
  refine Y_move ?_
  refine Y_cmp ?_
  refine XD_end ?_
  refine K_then ?_
  refine Y_pk [9, 5, 4, 2] ?_
  refine C_cond rfl (fun hc3 => ?_) (fun hc3 => ?_)
  ·replace hc3 := dT hc3
   refine C_seq ?_
   refine C_region_any (l := [0, 1, 2, 3, 4]) #[0, 0, 2, 7, 15] _ rfl (by kernel_rfl) (by kernel_rfl) St.drawn (fun _ h => h) ?_
   refine Y_load F.lay28 ?_
   refine X_fs rfl rfl F.ok45 rfl (bNew_ok _ _) rfl ?_
   rintro _ rfl
   refine X_fn rfl rfl F.ok43 rfl (bWrap_ok M askT (.code 10) (newE 10) (by show newE 10 = _; rfl)) rfl ?_
   rintro _ M1 hm1 he
   refine Y_store F.lay28 ?_
   refine Y_assign ?_
   refine XD_end ?_
   refine K_then ?_
   refine Y_pk [5, 4, 2] ?_
   refine C_ret ?_
   refine K_ret ?_
   refine K_end (.inr rfl) (.cell rfl (by repeat first | exact List.Mem.head _ | refine List.Mem.tail _ ?_ | refine List.mem_append_right _ ?_) F.lay28 rfl rfl (.tmp rfl .nil)) (fun w hw => ?_)
   exact ⟨_, M1, rfl, hm1, hw.c, _, rfl, he⟩
  ·replace hc3 := dF hc3
   (exfalso; omega)

theorem try_in (M : Mem) (c : ClientV) (b : Int) (h : c.tries < b) (h2 : 0 ≤ c.tries ∧ c.tries ≤ 1000) : Fs Tryd.prog 52 [c.enc, .int .i64 b] M (fun v => v = .tuple #[({ c with tries := c.tries + 1 } : ClientV).enc, .nilIface]) := by
  obtain ⟨c_num, c_req, c_busy, c_key, ⟨c_op_client, c_op_req, c_op_kind, c_op_version, c_op_val⟩, c_tries⟩ := c
  simp only at h h2
  refine fs_enter Tryd.func52 rfl Tryd.ntmps52 rfl ?_; intro H
  refine C_seq ?_
  refine C_region (l := [0, 1, 2]) rfl ?_
  refine Y_box ?_; intro b1
  refine Y_alloc F.zero28 ?_; intro b2
  refine Y_assign ?_
  refine XD_end ?_
  refine K_then ?_
  refine Y_pk [5, 4, 2, 1] ?_
  iterate 2 refine C_seq ?_
  refine C_region (l := [0, 1, 2, 3]) rfl ?_
  refine Y_fieldAddr F.foff28_5 ?_
  refine Y_load F.lay3 ?_
  refine Y_move ?_
  refine Y_cmp ?_
  refine XD_end ?_
  refine K_then ?_
  refine Y_pk [9, 5, 4, 2] ?_
  refine C_cond rfl (fun hc3 => ?_) (fun hc3 => ?_)
  ·replace hc3 := dT hc3
   (exfalso; omega)
  ·replace hc3 := dF hc3
   refine C_skip ?_
   refine K_then ?_
   refine Y_pk [5, 4, 2] ?_
   refine C_seq ?_
   refine C_region (l := [0, 1, 2, 3, 4]) rfl ?_
   refine Y_fieldAddr F.foff28_5 ?_
   refine Y_load F.lay3 ?_
   refine X_ari rfl rfl rfl rfl rfl (by exact wrap_in (by decide) (by omega)) rfl ?_
   refine Y_fieldAddr F.foff28_5 ?_
   refine Y_store F.lay3 ?_
   refine XD_end ?_
   refine K_then ?_
   refine Y_pk [5, 4, 2] ?_
   refine C_seq ?_
   refine C_region (l := [0, 1, 2]) rfl ?_
   refine Y_load F.lay28 ?_
   refine Y_store F.lay28 ?_
   refine Y_assign ?_
   refine XD_end ?_
   refine K_then ?_
   refine Y_pk [5, 4] ?_
   refine C_ret ?_
   refine K_end (.inr rfl) (.cell rfl (by repeat first | exact List.Mem.head _ | refine List.Mem.tail _ ?_ | refine List.mem_append_right _ ?_) F.lay28 rfl rfl (.tmp rfl .nil)) (fun w hw => ?_)
   exact ⟨_, rfl, hw.c, rfl⟩

end Go.Proofs.YtelpkhhfjfbkcaaDoor
